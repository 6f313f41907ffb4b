/- Conditions: as stated. -/
import Derived.Test.YtlhkojcmcmkmaaaGreatKLeaf
set_option maxHeartbeats 2000000
namespace Go.Proofs.YtlhkojcmcmkmaaaGreat
open Go.Proofs.Tryz
open Go.RowKit
def G5(l:List Elem):Bool:=decide (l.length<=140)&&l.all fun x=>decide (x.code.size<=60)
theorem ajY(A:Option Addr)(y:Nat)(l:List Elem)(w:World)(B:Nat)(h:aj aN 2 w B A l)(L:l.length<=9223372036854775807):
  Calls prog 31 #[.slice A l.length y] w fun e w'=>e=.returned (.bool (G5 l))/\w=w':=by
 by_cases r:140<l.length
 ·have u:Hid (G5 l=false):=by simp[Hid,G5];intro;omega
  go_enter func31,ntmps31;go_wp2;go_ret;exact⟨by rw[u.out];rfl,rfl⟩
 ·have D:l.length<=140:=by omega
  clear r;go_enter func31,ntmps31;go_wp2
  go_loop [3] (fun i=>∃k:Nat,k<=l.length/\i=.int .i64 k/\Hid (∀j,(p:j<l.length)->j<k->l[j].code.size<=60)) (fun i=>l.length-(intOf i).toNat)
  case atStart=>exact⟨0,by omega,rfl,fun j _ p=>absurd p (by omega)⟩
  case round=>
   obtain⟨k,M,rfl,n⟩:=hrel;by_cases z:k<l.length
   ·obtain⟨b,E,rfl,N,C⟩:=h.at_ z;have F:=C 0 _ rfl;simp only[ara]at F;clear C;by_cases G:60<l[k].code.size
    ·have u:Hid (G5 l=false):=by
      simp only[Hid,G5,asV,List.all_eq_false];exact .inr ⟨l[k],arc _,by simp;omega⟩
     go_wp2;go_ret;exact⟨by rw[u.out];rfl,rfl⟩
    ·have I:l[k].code.size<=60:=(by omega);clear G;go_wp2;go_round
     case rel=>
      refine⟨k+1,by omega,by go_num,fun j p J=>?_⟩;rcases arp j k with h1|h1
      ·exact n.out j p h1
      ·obtain rfl:j=k:=by omega
       exact I
     case measure=>simp[intOf];omega
   ·have u:Hid (G5 l=true):=by
     simp only[Hid,G5,arw,List.all_eq_true,arz];refine⟨D,fun x K=>?_⟩;obtain⟨j,p,rfl⟩:=arN.1 K;exact n.out j p (by omega)
    go_wp2;go_ret;exact⟨by rw[u.out];rfl,rfl⟩
def jc(x y:Elem):Bool:=Op.bytesLess x.code.toList y.code.toList
def put(xs:List Elem)(e:Elem):List Elem:=
 match xs with
 |[]=>[e]
 |x::r=>if jc x e then x::put r e else if x.code.toList==e.code.toList then⟨e.code,e.amount+x.amount⟩::r else e::x::r
theorem Zv(e:Elem):∀(l:List Elem) (k:Nat),k<=l.length->(∀j,(h:j<l.length)->j<k->jc l[j] e=true)->put l e=l.take k++put (l.drop k) e:=by
 intro l
 induction l with
 |nil=>intro k n _;simp
 |cons x r u=>
  intro k n h;cases k with
  |zero=>simp
  |succ k=>have p:=h 0 (by simp) (by omega);simp at p;rw[put,aq9 p,List.take_succ_cons,List.drop_succ_cons,List.cons_append];rw[<-u k (by simp at n;omega) (fun j z y=>by have:=h (j+1) (by simp;omega) (by omega);simpa using this)]
theorem put_eq{xs:List Elem}{e:Elem}{k:Nat}(l:k<xs.length)(h:∀j,(h:j<xs.length)->j<k->jc xs[j] e=true)(n:jc xs[k] e=false)(p:(xs[k].code.toList==e.code.toList)=true):
  put xs e=xs.take k++[⟨e.code,e.amount+xs[k].amount⟩]++xs.drop (k+1):=by
 rw[Zv e xs k (by omega) h,List.drop_eq_getElem_cons l,put,n,p];simp
theorem ajZ{xs:List Elem}{e:Elem}{k:Nat}(l:k<xs.length)(h:∀j,(h:j<xs.length)->j<k->jc xs[j] e=true)(n:jc xs[k] e=false)(p:(xs[k].code.toList==e.code.toList)=false):
  put xs e=xs.take k++[e]++xs.drop k:=by
 rw[Zv e xs k (by omega) h,List.drop_eq_getElem_cons l,put,n,p];simp
theorem aj0{xs:List Elem}{e:Elem}(h:∀j,(h:j<xs.length)->jc xs[j] e=true):put xs e=xs.take xs.length++[e]++xs.drop xs.length:=by rw[Zv e xs xs.length (aq7 _) (fun j l _=>h j l)];simp[put]
theorem Up(A:Option Addr)(cap:Nat)(xs:List Elem)(e:Elem)(w:World)(h:aj aN 2 w w.heap.size A xs)(hc:xs.length<=cap)(T:cap<=maxLen)(hl:xs.length<=1000000)
  (hx:∀x∈xs,-1000000000000000<=x.amount/\x.amount<=1000000000000000) (TU:-1000000000000000<=e.amount) (TV:e.amount<=1000000000000000):
  Calls prog 136 #[.slice A xs.length cap,.agg #[.string e.code,.int .i64 e.amount]] w fun r w'=>∃v,r=.returned v/\Own aN 2 69 w' w.heap.size v (put xs e)/\Below w.heap.size w w':=by
 have HX:=aq6 hx;clear hx;have ad:cap<=9223372036854775807:=T;clear T;go_enter func136,ntmps136;go_wp2
 go_loopw [5,6] (fun v i wr=>∃k:Nat,k<=xs.length/\i=.int .i64 k/\Hid (∀j,(P:j<xs.length)->j<k->jc xs[j] e=true)/\Own aN 2 69 wr (w.heap.size+1) v (xs.take k)/\ah wr w.heap.size 69 #[.string e.code,.int .i64 e.amount]/\Below w.heap.size w wr) (fun _ i _=>xs.length-(intOf i).toNat)
 case atStart=>exact⟨0,by omega,rfl,fun j _ P=>absurd P (by omega),by simpa using Own.cK _ _,ah.new _ _ _,(arb _ _).alloc (aq7 _) _⟩
 case round=>
  obtain⟨k,hk,rfl,z,l,u,G⟩:=hrel;have X:=u.cell 0;have Y:=u.cell 1;have f1:=u.frozen 1;have af:=u.lt;simp only[ak,aq,ar]at X Y;by_cases C:k<xs.length
  ·obtain⟨b,U,hA,hb,y⟩:=(h.below G).at_ C;have c0:=y 0 _ rfl;have c1:=y 1 _ rfl;simp only[ara]at c0;clear y;by_cases Cp:Op.bytesLess xs[k].code.toList e.code.toList=true
   ·subst hA;have Q2:=aq6 Cp;go_wp2;go_quiet(fail);go_wp2_with(at_builtin;(refine my _ _ 51 ⟨xs[k].code,xs[k].amount⟩ _ 24 _ kF underlying51 (l.drewN nq) dt (by omega) rfl (kn _) (by simp;omega) (by omega) (by simp;omega) (by rfl) (by rfl) (by rfl) (by rfl) (by simp) (by rfl) ?_);intro v2 F D E);go_roundw
    case rel=>
     have I:=fun g n=>(l.cg (g:=g) n).1;refine⟨k+1,by omega,by go_num,fun j P ai=>?_,?_,(u.drewN nq).grown E (fun e=>by have:=I _ e.symm;omega),(below_drewN G nq).grown E (by simp;omega) (fun g n=>by have:=I g n;omega)⟩
     ·rcases arp j k with h1|h1
      ·exact z.out j P h1
      ·obtain rfl:j=k:=by omega
       exact Q2.out
     ·rw[arA C];exact D
    case measure=>simp[intOf];omega
   ·have V:Op.bytesLess xs[k].code.toList e.code.toList=false:=(by simpa using Cp);clear Cp;by_cases L:(xs[k].code.toList==e.code.toList)=true
    ·subst hA;have Q:=aq6 (put_eq C z.out V L);have QX:=HX.out _ (arc C);obtain⟨al,am⟩:=QX;go_wp2;go_quiet(fail);go_wp2;go_quiet(fail);go_wp2
     go_region
     generalize Z:World.setCell (World.drewN wr _) _ _=W;have N4:ah W w.heap.size 69 #[.string e.code,.int .i64 (e.amount+xs[k].amount)]:=by rw[<-Z];simpa using(u.drewN _).ez 1 (.int .i64 (e.amount+xs[k].amount))
     have Q3:Own aN 2 69 W (w.heap.size+1) u5 (xs.take k):=by rw[<-Z];exact(l.drewN _).setCell (p:=⟨w.heap.size,1,none⟩) (fun g n=>by have:=(l.cg n).1;show g≠w.heap.size;omega) _
     have Qv:Below w.heap.size w W:=(by rw[<-Z];exact gS (below_drewN G _) (aq7 _) 1 _);clear Z;have an:=N4.lt;obtain⟨a0,a1⟩:=N4.cz2;have I:=fun g n=>(Q3.cg (g:=g) n).1;have HS:=aq6 h;have CN:((k:Int)+1)<=(cap:Int):=(by omega);clear c0 c1 X Y f1 u l G h;go_upto_region 10 with(at_builtin;(refine my _ _ 51 ⟨e.code,e.amount+xs[k].amount⟩ _ 24 _ kF underlying51 Q3 dt (by omega) rfl (kn _) (by simp;omega) (by omega) (by omega) (by rfl) (by rfl) (by rfl) (by rfl) (by simp) (by rfl) ?_);intro v2 F D E)
     have J:Below w.heap.size w F:=Qv.grown E (by omega) (fun g n=>by have:=I g n;omega);have R:w.heap.size+1<=F.heap.size:=(by have:=E.size;omega);have S:=fun g n=>(D.cg (g:=g) n).1;rcases arp (k+1) cap with P8|P8
     ·have hcut:=(HS.out.below J).cut (i:=k+1) (cap:=cap) (by omega) (by omega);rw[aq8 (by omega)]at hcut;simp only[Option.map_some,Addr.add,show¬(k+1)*2=0 by omega,arK]at hcut;go_wp2_with(at_builtin;(refine FE (ys:=xs.drop (k+1)) _ _ 51 _ 24 _ kF underlying51 D hcut dt (by omega) rfl kn (by simp;omega) (by omega) R (by rfl) (by rfl) (by rfl) (by rfl) (by simp) ?_);intro M w7 N O);go_ret;refine⟨M,rfl,?_,J.grown O (by omega) (fun g n=>by have:=S g n;omega)⟩;rw[Q.out];exact N.weaken (by omega)
     ·have K:xs.drop (k+1)=[]:=List.drop_eq_nil_of_le (by omega);have HN:=aq6 K;clear K;obtain rfl:cap=k+1:=by omega
      go_wp2_with(at_builtin;(refine FE (B:=0) (ys:=[]) _ _ 51 _ 24 _ kF underlying51 D aj.cK dt (by omega) rfl kn (by simp<;>omega) (by omega) R (by rfl) (by rfl) (by rfl) (by rfl) (by simp<;>omega) ?_);intro M w7 N O);go_ret;refine⟨M,rfl,?_,J.grown O (by omega) (fun g n=>by have:=S g n;omega)⟩;rw[Q.out,HN.out];exact N.weaken (by omega)
    ·have ab:(xs[k].code.toList==e.code.toList)=false:=(by simpa using L);clear L;subst hA;have Q:=aq6 (ajZ C z.out V ab);go_wp2;go_quiet(fail);go_wp2;go_quiet(fail);go_upto_region 10 with(at_builtin;(refine my _ _ 51 e _ 24 _ kF underlying51 (l.drewN _) dt (by omega) rfl (kn _) (by simp;omega) (by omega) (by simp;omega) (by rfl) (by rfl) (by rfl) (by rfl) (by simp) (by rfl) ?_);intro v2 F D E)
     have I:=fun g n=>(l.cg (g:=g) n).1;have R:w.heap.size+1<=F.heap.size:=(by have:=E.size;simp at this;omega);have J:Below w.heap.size w F:=(below_drewN G _).grown E (by simp;omega) (fun g n=>by have:=I g n;omega);have S:=fun g n=>(D.cg (g:=g) n).1;have hcut:=(h.below J).cut (i:=k) (cap:=cap) (by omega) (by omega);rw[aq8 (by omega)]at hcut;have pC:(⟨b,U,none⟩:Addr).add (k*2)=⟨b,U+k*2,none⟩:=by unfold Addr.add;split<;>simp_all
     simp only[Option.map_some,pC]at hcut;have ao:¬cap=k:=(by omega);clear c0 c1 X Y f1 u l G h pC;go_wp2_with(at_builtin;(refine FE (ys:=xs.drop k) _ _ 51 _ 24 _ kF underlying51 D hcut dt (by omega) rfl kn (by simp;omega) (by omega) R (by rfl) (by rfl) (by rfl) (by rfl) (by simp) ?_);intro M w7 N O);go_ret;refine⟨M,rfl,?_,J.grown O (by omega) (fun g n=>by have:=S g n;omega)⟩;rw[Q.out];exact N.weaken (by omega)
  ·have Q:=aq6 (aj0 (xs:=xs) (e:=e) (fun j P=>z.out j P (by omega)));obtain rfl:k=xs.length:=by omega
   have ap:decide ((xs.length:Int)<(xs.length:Int))=false:=(by simp);have av:decide (xs.length<xs.length)=false:=(by simp);go_wp2;go_quiet(fail);go_wp2;go_quiet(fail);go_upto_region 10 with(at_builtin;(refine my _ _ 51 e _ 24 _ kF underlying51 (l.drewN _) dt (by omega) rfl (kn _) (by simp;omega) (by omega) (by simp;omega) (by rfl) (by rfl) (by rfl) (by rfl) (by simp) (by rfl) ?_);intro v2 F D E)
   have I:=fun g n=>(l.cg (g:=g) n).1;have R:w.heap.size+1<=F.heap.size:=(by have:=E.size;simp at this;omega);have J:Below w.heap.size w F:=(below_drewN G _).grown E (by simp;omega) (fun g n=>by have:=I g n;omega);have S:=fun g n=>(D.cg (g:=g) n).1;clear X Y f1 u l G h;go_wp2_with(at_builtin;(refine FE (B:=0) (ys:=[]) _ _ 51 _ 24 _ kF underlying51 D aj.cK dt (by omega) rfl kn (by simp<;>omega) (by omega) R (by rfl) (by rfl) (by rfl) (by rfl) (by simp) ?_);intro M w7 N O)
   all_goals go_ret;refine⟨M,rfl,?_,J.grown O (by omega) (fun g n=>by have:=S g n;omega)⟩;rw[Q.out];simpa using N.weaken (by omega)
def bB(l:List Elem):List Elem:=l.foldl put []
def nz(x:Elem):Bool:=x.amount !=0
theorem Zu(l:List Elem)(x:Elem):bB (l++[x])=put (bB l) x:=by simp[bB,List.foldl_append]
def Iq(B:Int)(l:List Elem):Prop:=∀x∈l,-B<=x.amount/\x.amount<=B
theorem Iq.put{B C:Int}{l:List Elem}{e:Elem}(h:Iq B l)(p:0<=B)(r:0<=C)(u:-C<=e.amount)(y:e.amount<=C):Iq (B+C) (put l e):=by
 induction l with
 |nil=>intro x hx;simp[Go.Proofs.YtlhkojcmcmkmaaaGreat.put]at hx;subst hx;omega
 |cons a l n=>
  have z:=h a (by simp);have j:Iq B l:=fun x hx=>h x (by simp[hx]);intro x hx;rw[Go.Proofs.YtlhkojcmcmkmaaaGreat.put]at hx;split at hx
  ·rcases arF.1 hx with rfl|hx
   ·omega
   ·exact n j x hx
  ·split at hx
   ·rcases arF.1 hx with rfl|hx
    ·show-(B+C)<=e.amount+a.amount/\e.amount+a.amount<=B+C;omega
    ·have:=j x hx;omega
   ·rcases arF.1 hx with rfl|hx
    ·omega
    ·have:=h x hx;omega
theorem Zw(l:List Elem)(e:Elem):(put l e).length<=l.length+1:=by
 induction l with
 |nil=>simp[put]
 |cons a l j=>
  rw[put];split
  ·simp;omega
  ·split<;>simp
theorem ac0(l:List Elem):∀e:List Elem,(l.foldl put e).length<=e.length+l.length:=by
 induction l with
 |nil=>intro e;simp
 |cons a l j=>intro e;have n:=j (put e a);have p:=Zw e a;simp;omega
theorem UQ(l:List Elem):(bB l).length<=l.length:=by have:=ac0 l [];simpa[bB]using this
theorem Zx(l:List Elem)(e:Elem):∀x∈put l e,x.code=e.code\/∃y∈l,y.code=x.code:=by
 induction l with
 |nil=>intro x hx;simp[put]at hx;subst hx;exact .inl rfl
 |cons a l j=>
  intro x hx;rw[put]at hx;split at hx
  ·rcases arF.1 hx with rfl|hx
   ·exact .inr ⟨_,by simp,rfl⟩
   ·rcases j x hx with h|⟨y,hy,h⟩
    ·exact .inl h
    ·exact .inr ⟨y,by simp[hy],h⟩
  ·split at hx
   ·rcases arF.1 hx with rfl|hx
    ·exact .inl rfl
    ·exact .inr ⟨x,by simp[hx],rfl⟩
   ·rcases arF.1 hx with rfl|hx
    ·exact .inl rfl
    ·exact .inr ⟨x,hx,rfl⟩
theorem aj2(l:List Elem):∀e,∀x∈l.foldl put e,(∃y∈l,y.code=x.code)\/∃y∈e,y.code=x.code:=by
 induction l with
 |nil=>intro e x j;exact .inr ⟨x,j,rfl⟩
 |cons a l p=>
  intro e x j;rcases p (put e a) x j with⟨y,hy,h⟩|⟨y,hy,h⟩
  ·exact .inl ⟨y,by simp[hy],h⟩
  ·rcases Zx e a y hy with n|⟨z,r,n⟩
   ·exact .inl ⟨a,by simp,by rw[<-h,n]⟩
   ·exact .inr ⟨z,r,by rw[n,h]⟩
theorem U8{l:List Elem}{x:Elem}(e:x∈bB l):∃y∈l,y.code=x.code:=by
 rcases aj2 l [] x e with h|⟨y,hy,_⟩
 ·exact h
 ·simp at hy
theorem aj3{l:List Elem}(h:∀x∈l,x.code.size<=maxLen)(x:Elem)(j:x∈bB l):x.code.size<=maxLen:=by obtain⟨y,hy,e⟩:=U8 j;rw[<-e];exact h y hy
theorem Br:∀(x y:List UInt8),Op.bytesLess x y=decide (x<y)
 |[],[]=>by simp[Op.bytesLess]
 |_::_,[]=>by simp[Op.bytesLess]
 |[],_::_=>by simp[Op.bytesLess]
 |a::x,b::y=>by rw[Op.bytesLess,Br x y];simp only[List.cons_lt_cons_iff];by_cases e:a<b<;>by_cases j:a=b<;>by_cases l:x<y<;>simp[e,j,l]
def key(c:ByteArray):Lit:=.string c.data.toList
theorem key_inj{a b:ByteArray}(h:key a=key b):a=b:=by obtain⟨⟨l⟩⟩:=a;obtain⟨⟨m⟩⟩:=b;simp[key]at h;rw[h]
theorem Xq{l:List Elem}(p:l.Pairwise (fun a b=>jc b a=false))(r:l.Pairwise (fun a b=>a.code≠b.code)):l.Pairwise (fun a b=>jc a b=true):=by
 refine(p.and r).imp ?_;rintro a b ⟨j,n⟩;rw[jc,Br]at j|-;simp only[ar4,asb,arz]at j|-;have u:a.code.toList≠b.code.toList:=by intro e;apply n;rw[ByteArray.toList_eq,ByteArray.toList_eq]at e;exact key_inj (by simp[key,e])
 exact Decidable.byContradiction fun h=>u (List.le_antisymm j (asb.1 h))
def cC:List Elem->List UInt8->Int
 |[],_=>0
 |x::l,c=>(if x.code.data.toList=c then x.amount else 0)+cC l c
def fF(l:List Elem)(c:List UInt8):Bool:=l.any fun x=>decide (x.code.data.toList=c)
theorem U9{a b:ByteArray}(h:a.data.toList=b.data.toList):a=b:=key_inj (by simp[key,h])
theorem EP(x y:Elem):jc x y=true↔x.code.data.toList<y.code.data.toList:=by rw[jc,Br,ByteArray.toList_eq,ByteArray.toList_eq];simp
theorem adU{x y z:Elem}(e:jc x y=true)(j:jc y z=true):jc x z=true:=by rw[EP]at*;exact List.lt_trans e j
theorem aj4(x:Elem):jc x x=false:=by
 cases h:jc x x
 ·rfl
 ·rw[EP]at h;exact absurd h (asG _)
def iO(l:List Elem):Prop:=l.Pairwise (fun a b=>jc a b=true)
theorem Nl(l m:List Elem)(c:List UInt8):cC (l++m) c=cC l c+cC m c:=by
 induction l with
 |nil=>simp[cC]
 |cons a l e=>simp[cC,e];omega
theorem TL(l m:List Elem)(c:List UInt8):fF (l++m) c=(fF l c||fF m c):=by simp[fF]
theorem aj5(l:List Elem)(e:Elem)(c:List UInt8):cC (put l e) c=cC l c+(if e.code.data.toList=c then e.amount else 0):=by
 induction l with
 |nil=>simp[put,cC]
 |cons a l j=>
  rw[put];split
  ·simp only[cC,j];omega
  ·split
   ·rename_i h;have n:a.code.data.toList=e.code.data.toList:=by
     rw[ByteArray.toList_eq,ByteArray.toList_eq]at h;simpa using h
    simp only[cC,n];split<;>omega
   ·simp only[cC];omega
theorem aj6(l:List Elem)(e:Elem)(c:List UInt8):fF (put l e) c=(fF l c||decide (e.code.data.toList=c)):=by
 induction l with
 |nil=>simp[put,fF]
 |cons a l j=>
  rw[put];unfold fF at j|-;split
  ·simp only[List.any_cons,j,Bool.or_assoc]
  ·split
   ·rename_i h;have n:a.code.data.toList=e.code.data.toList:=by
     rw[ByteArray.toList_eq,ByteArray.toList_eq]at h;simpa using h
    simp only[List.any_cons,n];cases decide (e.code.data.toList=c)<;>simp
   ·simp only[List.any_cons];cases decide (e.code.data.toList=c)<;>simp
theorem sorted_put{l:List Elem}(h:iO l)(e:Elem):iO (put l e):=by
 induction l with
 |nil=>simp[put,iO]
 |cons a l C=>
  obtain⟨p,z⟩:=ar8.1 h;rw[put];split
  ·rename_i n;refine ar8.2 ⟨fun x hx=>?_,C z⟩;rcases Zx l e x hx with j|⟨y,hy,j⟩
   ·rw[EP,j,<-EP];exact n
   ·rw[EP,<-j,<-EP];exact p y hy
  ·rename_i n;split
   ·rename_i j;have r:e.code=a.code:=by
     apply U9;rw[ByteArray.toList_eq,ByteArray.toList_eq]at j;exact(by simpa using j:a.code.data.toList=e.code.data.toList).symm
    refine ar8.2 ⟨fun x hx=>?_,z⟩;rw[EP];show e.code.data.toList<_;rw[r,<-EP];exact p x hx
   ·rename_i j;have B:jc e a=true:=by
     rw[EP]at n|-;rw[ByteArray.toList_eq,ByteArray.toList_eq]at j;have u:¬a.code.data.toList=e.code.data.toList:=(by simpa using j);exact Decidable.byContradiction fun h=>u (List.le_antisymm (asb.1 h) (asb.1 n))
    refine ar8.2 ⟨fun x hx=>?_,h⟩;rcases arF.1 hx with rfl|hx
    ·exact B
    ·exact adU B (p x hx)
theorem Vb(l:List Elem):∀e,iO e->iO (l.foldl put e)/\(∀c,cC (l.foldl put e) c=cC e c+cC l c)/\∀c,fF (l.foldl put e) c=(fF e c||fF l c):=by
 induction l with
 |nil=>intro e h;exact⟨h,fun c=>by simp[cC],fun c=>by simp[fF]⟩
 |cons a l j=>
  intro e h;obtain⟨n,p,r⟩:=j (put e a) (sorted_put h a);refine⟨n,fun c=>?_,fun c=>?_⟩
  ·rw[asq,p,aj5];simp only[cC];omega
  ·rw[asq,r,aj6];simp only[fF,List.any_cons,Bool.or_assoc]
theorem IW(l:List Elem):iO (bB l):=(Vb l [] List.Pairwise.nil).1
theorem Q4(l:List Elem)(c:List UInt8):cC (bB l) c=cC l c:=by have:=(Vb l [] List.Pairwise.nil).2.1 c;simpa[cC,bB]using this
theorem Q5(l:List Elem)(c:List UInt8):fF (bB l) c=fF l c:=by have:=(Vb l [] List.Pairwise.nil).2.2 c;simpa[fF,bB]using this
theorem aj7{l:List Elem}{c:List UInt8}(h:∀x∈l,x.code.data.toList≠c):cC l c=0:=by
 induction l with
 |nil=>rfl
 |cons a l e=>simp only[cC,aq8 (h a (by simp))];rw[e (fun x j=>h x (by simp[j]))];rfl
theorem mem_sorted{l:List Elem}(h:iO l)(x:Elem):x∈l↔(fF l x.code.data.toList=true/\x.amount=cC l x.code.data.toList):=by
 induction l with
 |nil=>simp[fF]
 |cons a l p=>
  obtain⟨u,z⟩:=ar8.1 h;have p:=p z;have j:∀y∈l,y.code.data.toList≠a.code.data.toList:=by intro y hy e;have:=u y hy;rw[EP,e]at this;exact asG _ this
  by_cases n:a.code.data.toList=x.code.data.toList
  ·have B:cC l x.code.data.toList=0:=(by rw[<-n];exact aj7 j);simp only[fF,List.any_cons,cC,n,decide_true,Bool.true_or,arI,B,true_and,arF];constructor
   ·rintro(rfl|hx)
    ·omega
    ·exact absurd n.symm (j x hx)
   ·intro hx;left;obtain⟨C,D⟩:=x;obtain⟨E,F⟩:=a;have:=U9 n;simp only at this hx;subst this;congr;omega
  ·have r:x≠a:=(by rintro rfl;exact n rfl);simp only[fF,List.any_cons,cC,n,decide_false,Bool.false_or,arK,Int.zero_add,arF,r,false_or];exact p
theorem TN:∀{l m:List Elem},iO l->iO m->(∀x,x∈l↔x∈m)->l=m
 |[],[],_,_,_=>rfl
 |[],b::s,_,_,h=>by have:=(h b).2 (by simp);simp at this
 |a::r,[],_,_,h=>by have:=(h a).1 (by simp);simp at this
 |a::r,b::s,B,C,h=>by
  obtain⟨u,D⟩:=ar8.1 B;obtain⟨y,E⟩:=ar8.1 C;have DG:∀x:Elem,¬jc x x=true:=fun x z=>by rw[aj4]at z;cases z
  have n:a=b:=by
   rcases arF.1 ((h a).1 (by simp))with e|ha
   ·exact e
   ·rcases arF.1 ((h b).2 (by simp))with e|hb
    ·exact e.symm
    ·exact absurd (adU (u b hb) (y a ha)) (DG _)
  subst n;rw[TN D E (fun p=>⟨fun j=>by
   rcases arF.1 ((h p).1 (by simp[j]))with e|Me
   ·subst e;exact absurd (u _ j) (DG _)
   ·exact Me,fun j=>by
   rcases arF.1 ((h p).2 (by simp[j]))with e|Me
   ·subst e;exact absurd (y _ j) (DG _)
   ·exact Me⟩)]
theorem aj8{l e:List Elem}(h:iO e)(j:∀x:Elem,x∈e↔(fF l x.code.data.toList=true/\x.amount=cC l x.code.data.toList/\x.amount≠0)):e=(bB l).filter nz:=by refine TN h ((IW l).filter _) fun x=>?_;rw[j,ass,mem_sorted (IW l),Q5,Q4];simp[nz,and_assoc]
def mS(a b:Int):Int:=if a<b then-1 else if b<a then 1 else 0
def BF(n:Int):Bool:=decide (-1000000000000<=n/\n<=1000000000000)
theorem aj9(a:Int)(w:World):Calls prog 125 #[.int .i64 a] w fun e w'=>e=.returned (.bool false)/\w=w':=by go_enter func125,ntmps125;go_wp2;go_ret;exact⟨by simp,rfl⟩
theorem Qk(a b:Int)(w:World):Calls prog 84 #[.int .i64 a,.int .i64 b] w fun e w'=>e=.returned (.int .i64 (mS a b))/\w=w':=by
 go_enter func84,ntmps84;go_wp2_with(go_at_call 125;refine(aj9 _ _).mono ?_;rintro e w' ⟨rfl,rfl⟩)
 all_goals go_ret
 all_goals refine⟨?_,rfl⟩
 all_goals(simp[mS, *];try omega)
def Ig(a b:Int):Int:=if a≠0 then a else b
theorem aca(a b:Int)(c g j:Nat)(w:World)(z:w.cell? ⟨g,j,none⟩=some (.int .i64 a))(B:w.cell? ⟨g,j+1,none⟩=some (.int .i64 b)):
  Calls prog 83 #[.slice (some ⟨g,j,none⟩) 2 c] w fun e w'=>e=.returned (.int .i64 (Ig a b))/\w=w':=by
 by_cases l:a=0
 ·have p:Hid (Ig a b=b):=by simp[Hid,Ig,l]
  have r:(a !=0)=false:=by simp[l]
  clear l;by_cases n:b=0
  ·have y:=aq6 n;have u:(b !=0)=false:=(by simp[n]);clear n;go_enter func83,ntmps83;go_wp2;refine wp_loop_rounds 3 ?_;rw[rounds_succ];go_wp2;rw[rounds_succ];go_wp2;rw[rounds_succ];go_wp2;go_ret;exact⟨by rw[p.out,y.out];rfl,rfl⟩
  ·have u:(b !=0)=true:=(by simp[n]);clear n;go_enter func83,ntmps83;go_wp2;refine wp_loop_rounds 2 ?_;rw[rounds_succ];go_wp2;rw[rounds_succ];go_wp2;go_ret;exact⟨by rw[p.out];rfl,rfl⟩
 ·have p:Hid (Ig a b=a):=by simp[Hid,Ig,l]
  have r:(a !=0)=true:=by simp[l]
  clear l;go_enter func83,ntmps83;go_wp2;refine wp_loop_rounds 1 ?_;rw[rounds_succ];go_wp2;go_ret;exact⟨by rw[p.out];rfl,rfl⟩
def CP(low l:Int)(j:Bool)(e:Int):Bool:=
 if e=0 then !j else if e=1 then j else if e=2 then false else if e=3 then true else if l≠0 then decide (0<l)else if e=4 then j else if e=5 then !j else low.tmod 2!=0
def eR(num den mode:Int):Int:=if num%den=0 then num/den else if CP (num/den) (mS (num%den) (den-num%den)) (decide (0<num)) mode then num/den+1 else num/den
def D6(m:Int):Bool:=decide (0<=m/\m<=6)
def IX(a num j e l:Int):Bool:=decide (-1000000000000<=a/\a<=1000000000000/\0<=num/\num<=1000000/\1<=j/\j<=1000000/\1<=e/\e<=1000000)&&D6 l
def l8(a num den unit mode:Int):Int:=eR (a*num) (den*unit) mode*unit
def l9(a num l e j:Int):Int:=if IX a num l e j=false then 2 else if BF (l8 a num l e j)=false then 4 else 0
def gF(a num e unit mode:Int):Int:=if l9 a num e unit mode=0 then l8 a num e unit mode else 0
theorem adV(v n:Int)(e:0<n)(h:0<=v.tmod n):v.tdiv n=v/n/\v.tmod n=v%n:=by
 have p:=Int.tmod_add_mul_tdiv v n;have r:=asA v n;have u:=asg v (show n≠0 by omega);have y:=ash v e;have z:=Int.tmod_lt_of_pos v e;have j:n*(v.tdiv n-v/n)=v%n-v.tmod n:=by rw[Int.mul_sub];omega
 have l:v.tdiv n-v/n=0:=by
  rcases asE (v.tdiv n-v/n) 0 with h|h|h
  ·have:n*(v.tdiv n-v/n)<=n*(-1):=arP (by omega) (by omega);omega
  ·exact h
  ·have:n*1<=n*(v.tdiv n-v/n):=arP (by omega) (by omega);omega
 rw[l]at j;omega
theorem tdiv_neg(v n:Int)(e:0<n)(h:v.tmod n<0):v.tdiv n-1=v/n/\v.tmod n+n=v%n:=by
 have p:=Int.tmod_add_mul_tdiv v n;have r:=asA v n;have u:=asg v (show n≠0 by omega);have y:=ash v e;have z:-n<v.tmod n:=by have:=Int.lt_tmod_of_pos v e;omega
 have j:n*(v.tdiv n-v/n-1)=v%n-(v.tmod n+n):=by rw[Int.mul_sub,Int.mul_sub];omega
 have l:v.tdiv n-v/n-1=0:=by
  rcases asE (v.tdiv n-v/n-1) 0 with h|h|h
  ·have:n*(v.tdiv n-v/n-1)<=n*(-1):=arP (by omega) (by omega);omega
  ·exact h
  ·have:n*1<=n*(v.tdiv n-v/n-1):=arP (by omega) (by omega);omega
 rw[l]at j;omega
theorem Zy(v n:Int)(e:0<n)(B:Int)(j:-B<=v)(l:v<=B)(p:0<=B):-B<=v/n/\v/n<=B:=by
 constructor
 ·rw[Int.le_ediv_iff_mul_le e];have:-B*n<=-B*1:=Int.mul_le_mul_of_nonpos_left (by omega) (by omega);omega
 ·apply Int.ediv_le_of_le_mul e;have:B*1<=B*n:=arP (by omega) (by omega);omega
theorem adW(low j:Int)(n:Bool)(l:Int)(w:World):
  Calls prog 174 #[.int .i64 low,.int .i64 j,.bool n,.int .i64 l] w fun e w'=>e=.returned (.bool (CP low j n l))/\w=w':=by
 go_enter func174,ntmps174;go_wp2
 all_goals go_ret
 all_goals refine⟨?_,rfl⟩
 all_goals(simp_all[CP])
theorem ER(m:Int)(w:World):Calls prog 115 #[.int .i64 m] w fun e w'=>e=.returned (.bool (D6 m))/\w=w':=by
 by_cases l:0<=m<;>by_cases n:m<=6
 all_goals
  have j:D6 m=(decide (0<=m)&&decide (m<=6)):=by simp[D6]
  have p:=aq6 j;clear j;go_enter func115,ntmps115;go_wp2;go_ret;exact⟨by rw[p.out];simp[l,n],rfl⟩
theorem BX(m:Int)(w:World):Calls prog 179 #[.int .i64 m] w fun e w'=>e=.returned (.bool (D6 m))/\w=w':=by
 by_cases l:0<=m<;>by_cases n:m<=6
 all_goals
  have j:D6 m=(decide (0<=m)&&decide (m<=6)):=by simp[D6]
  have p:=aq6 j;clear j;go_enter func179,ntmps179;go_wp2;go_ret;exact⟨by rw[p.out];simp[l,n],rfl⟩
theorem Zz(num j l:Int)(w:World)(K:-1000000000000000000<=num)(L:num<=1000000000000000000)(B:0<j)(S:j<=1000000000000):
  Calls prog 116 #[.int .i64 num,.int .i64 j,.int .i64 l] w fun e w'=>e=.returned (.int .i64 (eR num j l))/\∃q,w'=w.drewN q:=by
 have M:=Zy num j B 1000000000000000000 K L (by omega);obtain⟨E,F⟩:=M;have p:=asg num (show j≠0 by omega);have r:=ash num B;have T:(j==0)=false:=by simp;omega
 by_cases N:num.tmod j<0
 ·obtain⟨u,y⟩:=tdiv_neg num j B N;have n:eR num j l=if num%j=0 then num/j else if CP (num/j) (mS (num%j) (j-num%j)) (decide (0<num)) l then num/j+1 else num/j:=rfl
  rw[<-u,<-y]at n;have O:-1000000000000000000<=num.tdiv j:=by omega
  have G:num.tdiv j<=1000000000000000001:=by omega
  have U:0<num.tmod j+j:=by have:=Int.lt_tmod_of_pos num B;omega
  have P:num.tmod j<j:=by omega
  have Q:-1000000000000<num.tmod j:=by omega
  have J:((num.tmod j+j)!=0)=true:=by simp;omega
  rw[aq8 (by omega)]at n;have C:=aq6 n;clear n u y E F p r;cases hu:CP (num.tdiv j-1) (mS (num.tmod j+j) (j-(num.tmod j+j))) (decide (0<num)) l
  all_goals have D:=aq6 hu;clear hu;go_enter func116,ntmps116;go_wp2;go_quiet(fail);go_wp2_with fail;refine(Qk _ _ _).mono ?_;rintro e I ⟨rfl,rfl⟩;go_wp2_with fail;refine(adW _ _ _ _ _).mono ?_;rintro e I ⟨rfl,rfl⟩;rw[D.out];go_wp2;go_ret;exact⟨by rw[C.out,D.out];first|rfl|simp,_,rfl⟩
 ·have R:0<=num.tmod j:=by omega
  obtain⟨u,y⟩:=adV num j B R;have n:eR num j l=if num%j=0 then num/j else if CP (num/j) (mS (num%j) (j-num%j)) (decide (0<num)) l then num/j+1 else num/j:=rfl
  rw[<-u,<-y]at n;have O:-1000000000000000000<=num.tdiv j:=by omega
  have G:num.tdiv j<=1000000000000000000:=by omega
  have P:num.tmod j<j:=by omega
  have Q:num.tmod j<1000000000000:=by omega
  by_cases z:num.tmod j=0
  ·rw[aq9 z]at n;have C:=aq6 n;have J:(num.tmod j !=0)=false:=(by simp[z]);clear n u y E F p r z;go_enter func116,ntmps116;go_wp2;go_quiet(fail);go_wp2;go_ret;exact⟨by rw[C.out];first|rfl|simp,_,rfl⟩
  ·rw[aq8 z]at n;have C:=aq6 n;have J:(num.tmod j !=0)=true:=(by simp[z]);clear n u y E F p r z;cases hu:CP (num.tdiv j) (mS (num.tmod j) (j-num.tmod j)) (decide (0<num)) l
   all_goals have D:=aq6 hu;clear hu;go_enter func116,ntmps116;go_wp2;go_quiet(fail);go_wp2_with fail;refine(Qk _ _ _).mono ?_;rintro e I ⟨rfl,rfl⟩;go_wp2_with fail;refine(adW _ _ _ _ _).mono ?_;rintro e I ⟨rfl,rfl⟩;rw[D.out];go_wp2;go_ret;exact⟨by rw[C.out,D.out];first|rfl|simp,_,rfl⟩
