/- Conditions: as stated. -/
import Derived.Test.YtlhkojcmcmkmaaaGreatSLeaf
set_option maxHeartbeats 2000000
namespace Go.Proofs.YtlhkojcmcmkmaaaGreat
open Go.Proofs.Tryz
open Go.RowKit
def ju(x y:Elem):Bool:=Op.bytesLess x.code.toList y.code.toList
def put(xs:List Elem)(e:Elem):List Elem:=
 match xs with
 |[]=>[e]
 |x::r=>if ju x e then x::put r e else if x.code.toList==e.code.toList then⟨e.code,e.amount+x.amount⟩::r else e::x::r
theorem Z6(e:Elem):∀(l:List Elem) (k:Nat),k<=l.length->(∀j,(h:j<l.length)->j<k->ju l[j] e=true)->put l e=l.take k++put (l.drop k) e:=by
 intro l
 induction l with
 |nil=>intro k n _;simp
 |cons x r u=>
  intro k n h;cases k with
  |zero=>simp
  |succ k=>have p:=h 0 (by simp) (by omega);simp at p;rw[put,arK p,List.take_succ_cons,List.drop_succ_cons,List.cons_append];rw[<-u k (by simp at n;omega) (fun j z y=>by have:=h (j+1) (by simp;omega) (by omega);simpa using this)]
theorem put_eq{xs:List Elem}{e:Elem}{k:Nat}(l:k<xs.length)(h:∀j,(h:j<xs.length)->j<k->ju xs[j] e=true)(n:ju xs[k] e=false)(p:(xs[k].code.toList==e.code.toList)=true):
  put xs e=xs.take k++[⟨e.code,e.amount+xs[k].amount⟩]++xs.drop (k+1):=by
 rw[Z6 e xs k (by omega) h,List.drop_eq_getElem_cons l,put,n,p];simp
theorem akd{xs:List Elem}{e:Elem}{k:Nat}(l:k<xs.length)(h:∀j,(h:j<xs.length)->j<k->ju xs[j] e=true)(n:ju xs[k] e=false)(p:(xs[k].code.toList==e.code.toList)=false):
  put xs e=xs.take k++[e]++xs.drop k:=by
 rw[Z6 e xs k (by omega) h,List.drop_eq_getElem_cons l,put,n,p];simp
theorem ake{xs:List Elem}{e:Elem}(h:∀j,(h:j<xs.length)->ju xs[j] e=true):put xs e=xs.take xs.length++[e]++xs.drop xs.length:=by rw[Z6 e xs xs.length (arI _) (fun j l _=>h j l)];simp[put]
theorem UU(A:Option Addr)(cap:Nat)(xs:List Elem)(e:Elem)(w:World)(h:aj aQ 2 w w.heap.size A xs)(hc:xs.length<=cap)(T:cap<=maxLen)(hl:xs.length<=1000000)
  (hx:∀x∈xs,-1000000000000000<=x.amount/\x.amount<=1000000000000000) (Uo:-1000000000000000<=e.amount) (Up:e.amount<=1000000000000000):
  Calls prog 136 #[.slice A xs.length cap,.agg #[.string e.code,.int .i64 e.amount]] w fun r w'=>∃v,r=.returned v/\Own aQ 2 69 w' w.heap.size v (put xs e)/\Below w.heap.size w w':=by
 have HX:=arH hx;clear hx;have ad:cap<=9223372036854775807:=T;clear T;go_enter func136,ntmps136;go_wp2
 go_loopw [5,6] (fun v i wr=>∃k:Nat,k<=xs.length/\i=.int .i64 k/\Hid (∀j,(P:j<xs.length)->j<k->ju xs[j] e=true)/\Own aQ 2 69 wr (w.heap.size+1) v (xs.take k)/\ah wr w.heap.size 69 #[.string e.code,.int .i64 e.amount]/\Below w.heap.size w wr) (fun _ i _=>xs.length-(intOf i).toNat)
 case atStart=>exact⟨0,by omega,rfl,fun j _ P=>absurd P (by omega),by simpa using Own.cL _ _,ah.new _ _ _,(arM _ _).alloc (arI _) _⟩
 case round=>
  obtain⟨k,hk,rfl,z,l,u,G⟩:=hrel;have X:=u.cell 0;have Y:=u.cell 1;have f1:=u.frozen 1;have af:=u.lt;simp only[ak,aq,ar]at X Y;by_cases C:k<xs.length
  ·obtain⟨b,U,hA,hb,y⟩:=(h.below G).at_ C;have c0:=y 0 _ rfl;have c1:=y 1 _ rfl;simp only[arL]at c0;clear y;by_cases CW:Op.bytesLess xs[k].code.toList e.code.toList=true
   ·subst hA;have Rv:=arH CW;go_wp2;go_quiet(fail);go_wp2_with(at_builtin;(refine mQ _ _ 51 ⟨xs[k].code,xs[k].amount⟩ _ 24 _ ll underlying51 (l.drewN nq) dB (by omega) rfl (kO _) (by simp;omega) (by omega) (by simp;omega) (by rfl) (by rfl) (by rfl) (by rfl) (by simp) (by rfl) ?_);intro v2 F D E);go_roundw
    case rel=>
     have I:=fun g n=>(l.cm (g:=g) n).1;refine⟨k+1,by omega,by go_num,fun j P ai=>?_,?_,(u.drewN nq).grown E (fun e=>by have:=I _ e.symm;omega),(below_drewN G nq).grown E (by simp;omega) (fun g n=>by have:=I g n;omega)⟩
     ·rcases arY j k with h1|h1
      ·exact z.out j P h1
      ·obtain rfl:j=k:=by omega
       exact Rv.out
     ·rw[ar9 C];exact D
    case measure=>simp[intOf];omega
   ·have V:Op.bytesLess xs[k].code.toList e.code.toList=false:=(by simpa using CW);clear CW;by_cases L:(xs[k].code.toList==e.code.toList)=true
    ·subst hA;have Q:=arH (put_eq C z.out V L);have Rp:=HX.out _ (arO C);obtain⟨al,am⟩:=Rp;go_wp2;go_quiet(fail);go_wp2;go_quiet(fail);go_wp2
     go_region
     generalize Z:World.setCell (World.drewN wr _) _ _=W;have Oz:ah W w.heap.size 69 #[.string e.code,.int .i64 (e.amount+xs[k].amount)]:=by rw[<-Z];simpa using(u.drewN _).eu 1 (.int .i64 (e.amount+xs[k].amount))
     have Rw:Own aQ 2 69 W (w.heap.size+1) u5 (xs.take k):=by rw[<-Z];exact(l.drewN _).setCell (p:=⟨w.heap.size,1,none⟩) (fun g n=>by have:=(l.cm n).1;show g≠w.heap.size;omega) _
     have QV:Below w.heap.size w W:=(by rw[<-Z];exact il (below_drewN G _) (arI _) 1 _);clear Z;have an:=Oz.lt;obtain⟨a0,a1⟩:=Oz.cz2;have I:=fun g n=>(Rw.cm (g:=g) n).1;have HS:=arH h;have Dm:((k:Int)+1)<=(cap:Int):=(by omega);clear c0 c1 X Y f1 u l G h;go_upto_region 10 with(at_builtin;(refine mQ _ _ 51 ⟨e.code,e.amount+xs[k].amount⟩ _ 24 _ ll underlying51 Rw dB (by omega) rfl (kO _) (by simp;omega) (by omega) (by omega) (by rfl) (by rfl) (by rfl) (by rfl) (by simp) (by rfl) ?_);intro v2 F D E)
     have J:Below w.heap.size w F:=QV.grown E (by omega) (fun g n=>by have:=I g n;omega);have R:w.heap.size+1<=F.heap.size:=(by have:=E.size;omega);have S:=fun g n=>(D.cm (g:=g) n).1;rcases arY (k+1) cap with Qy|Qy
     ·have hcut:=(HS.out.below J).cut (i:=k+1) (cap:=cap) (by omega) (by omega);rw[arJ (by omega)]at hcut;simp only[Option.map_some,Addr.add,show¬(k+1)*2=0 by omega,asj]at hcut;go_wp2_with(at_builtin;(refine He (ys:=xs.drop (k+1)) _ _ 51 _ 24 _ ll underlying51 D hcut dB (by omega) rfl kO (by simp;omega) (by omega) R (by rfl) (by rfl) (by rfl) (by rfl) (by simp) ?_);intro M w7 N O);go_ret;refine⟨M,rfl,?_,J.grown O (by omega) (fun g n=>by have:=S g n;omega)⟩;rw[Q.out];exact N.weaken (by omega)
     ·have K:xs.drop (k+1)=[]:=List.drop_eq_nil_of_le (by omega);have HN:=arH K;clear K;obtain rfl:cap=k+1:=by omega
      go_wp2_with(at_builtin;(refine He (B:=0) (ys:=[]) _ _ 51 _ 24 _ ll underlying51 D aj.cL dB (by omega) rfl kO (by simp<;>omega) (by omega) R (by rfl) (by rfl) (by rfl) (by rfl) (by simp<;>omega) ?_);intro M w7 N O);go_ret;refine⟨M,rfl,?_,J.grown O (by omega) (fun g n=>by have:=S g n;omega)⟩;rw[Q.out,HN.out];exact N.weaken (by omega)
    ·have ab:(xs[k].code.toList==e.code.toList)=false:=(by simpa using L);clear L;subst hA;have Q:=arH (akd C z.out V ab);go_wp2;go_quiet(fail);go_wp2;go_quiet(fail);go_upto_region 10 with(at_builtin;(refine mQ _ _ 51 e _ 24 _ ll underlying51 (l.drewN _) dB (by omega) rfl (kO _) (by simp;omega) (by omega) (by simp;omega) (by rfl) (by rfl) (by rfl) (by rfl) (by simp) (by rfl) ?_);intro v2 F D E)
     have I:=fun g n=>(l.cm (g:=g) n).1;have R:w.heap.size+1<=F.heap.size:=(by have:=E.size;simp at this;omega);have J:Below w.heap.size w F:=(below_drewN G _).grown E (by simp;omega) (fun g n=>by have:=I g n;omega);have S:=fun g n=>(D.cm (g:=g) n).1;have hcut:=(h.below J).cut (i:=k) (cap:=cap) (by omega) (by omega);rw[arJ (by omega)]at hcut;have qf:(⟨b,U,none⟩:Addr).add (k*2)=⟨b,U+k*2,none⟩:=by unfold Addr.add;split<;>simp_all
     simp only[Option.map_some,qf]at hcut;have ao:¬cap=k:=(by omega);clear c0 c1 X Y f1 u l G h qf;go_wp2_with(at_builtin;(refine He (ys:=xs.drop k) _ _ 51 _ 24 _ ll underlying51 D hcut dB (by omega) rfl kO (by simp;omega) (by omega) R (by rfl) (by rfl) (by rfl) (by rfl) (by simp) ?_);intro M w7 N O);go_ret;refine⟨M,rfl,?_,J.grown O (by omega) (fun g n=>by have:=S g n;omega)⟩;rw[Q.out];exact N.weaken (by omega)
  ·have Q:=arH (ake (xs:=xs) (e:=e) (fun j P=>z.out j P (by omega)));obtain rfl:k=xs.length:=by omega
   have ap:decide ((xs.length:Int)<(xs.length:Int))=false:=(by simp);have au:decide (xs.length<xs.length)=false:=(by simp);go_wp2;go_quiet(fail);go_wp2;go_quiet(fail);go_upto_region 10 with(at_builtin;(refine mQ _ _ 51 e _ 24 _ ll underlying51 (l.drewN _) dB (by omega) rfl (kO _) (by simp;omega) (by omega) (by simp;omega) (by rfl) (by rfl) (by rfl) (by rfl) (by simp) (by rfl) ?_);intro v2 F D E)
   have I:=fun g n=>(l.cm (g:=g) n).1;have R:w.heap.size+1<=F.heap.size:=(by have:=E.size;simp at this;omega);have J:Below w.heap.size w F:=(below_drewN G _).grown E (by simp;omega) (fun g n=>by have:=I g n;omega);have S:=fun g n=>(D.cm (g:=g) n).1;clear X Y f1 u l G h;go_wp2_with(at_builtin;(refine He (B:=0) (ys:=[]) _ _ 51 _ 24 _ ll underlying51 D aj.cL dB (by omega) rfl kO (by simp<;>omega) (by omega) R (by rfl) (by rfl) (by rfl) (by rfl) (by simp) ?_);intro M w7 N O)
   all_goals go_ret;refine⟨M,rfl,?_,J.grown O (by omega) (fun g n=>by have:=S g n;omega)⟩;rw[Q.out];simpa using N.weaken (by omega)
def bF(l:List Elem):List Elem:=l.foldl put []
def nz(x:Elem):Bool:=x.amount !=0
theorem Z5(l:List Elem)(x:Elem):bF (l++[x])=put (bF l) x:=by simp[bF,List.foldl_append]
def IX(B:Int)(l:List Elem):Prop:=∀x∈l,-B<=x.amount/\x.amount<=B
theorem IX.put{B C:Int}{l:List Elem}{e:Elem}(h:IX B l)(p:0<=B)(r:0<=C)(u:-C<=e.amount)(y:e.amount<=C):IX (B+C) (put l e):=by
 induction l with
 |nil=>intro x hx;simp[Go.Proofs.YtlhkojcmcmkmaaaGreat.put]at hx;subst hx;omega
 |cons a l n=>
  have z:=h a (by simp);have j:IX B l:=fun x hx=>h x (by simp[hx]);intro x hx;rw[Go.Proofs.YtlhkojcmcmkmaaaGreat.put]at hx;split at hx
  ·rcases asb.1 hx with rfl|hx
   ·omega
   ·exact n j x hx
  ·split at hx
   ·rcases asb.1 hx with rfl|hx
    ·show-(B+C)<=e.amount+a.amount/\e.amount+a.amount<=B+C;omega
    ·have:=j x hx;omega
   ·rcases asb.1 hx with rfl|hx
    ·omega
    ·have:=h x hx;omega
theorem Z7(l:List Elem)(e:Elem):(put l e).length<=l.length+1:=by
 induction l with
 |nil=>simp[put]
 |cons a l j=>
  rw[put];split
  ·simp;omega
  ·split<;>simp
theorem adh(l:List Elem):∀e:List Elem,(l.foldl put e).length<=e.length+l.length:=by
 induction l with
 |nil=>intro e;simp
 |cons a l j=>intro e;have n:=j (put e a);have p:=Z7 e a;simp;omega
theorem Vm(l:List Elem):(bF l).length<=l.length:=by have:=adh l [];simpa[bF]using this
theorem Z8(l:List Elem)(e:Elem):∀x∈put l e,x.code=e.code\/∃y∈l,y.code=x.code:=by
 induction l with
 |nil=>intro x hx;simp[put]at hx;subst hx;exact .inl rfl
 |cons a l j=>
  intro x hx;rw[put]at hx;split at hx
  ·rcases asb.1 hx with rfl|hx
   ·exact .inr ⟨_,by simp,rfl⟩
   ·rcases j x hx with h|⟨y,hy,h⟩
    ·exact .inl h
    ·exact .inr ⟨y,by simp[hy],h⟩
  ·split at hx
   ·rcases asb.1 hx with rfl|hx
    ·exact .inl rfl
    ·exact .inr ⟨x,by simp[hx],rfl⟩
   ·rcases asb.1 hx with rfl|hx
    ·exact .inl rfl
    ·exact .inr ⟨x,hx,rfl⟩
theorem akg(l:List Elem):∀e,∀x∈l.foldl put e,(∃y∈l,y.code=x.code)\/∃y∈e,y.code=x.code:=by
 induction l with
 |nil=>intro e x j;exact .inr ⟨x,j,rfl⟩
 |cons a l p=>
  intro e x j;rcases p (put e a) x j with⟨y,hy,h⟩|⟨y,hy,h⟩
  ·exact .inl ⟨y,by simp[hy],h⟩
  ·rcases Z8 e a y hy with n|⟨z,r,n⟩
   ·exact .inl ⟨a,by simp,by rw[<-h,n]⟩
   ·exact .inr ⟨z,r,by rw[n,h]⟩
theorem VC{l:List Elem}{x:Elem}(e:x∈bF l):∃y∈l,y.code=x.code:=by
 rcases akg l [] x e with h|⟨y,hy,_⟩
 ·exact h
 ·simp at hy
theorem akh{l:List Elem}(h:∀x∈l,x.code.size<=maxLen)(x:Elem)(j:x∈bF l):x.code.size<=maxLen:=by obtain⟨y,hy,e⟩:=VC j;rw[<-e];exact h y hy
theorem B2:∀(x y:List UInt8),Op.bytesLess x y=decide (x<y)
 |[],[]=>by simp[Op.bytesLess]
 |_::_,[]=>by simp[Op.bytesLess]
 |[],_::_=>by simp[Op.bytesLess]
 |a::x,b::y=>by rw[Op.bytesLess,B2 x y];simp only[List.cons_lt_cons_iff];by_cases e:a<b<;>by_cases j:a=b<;>by_cases l:x<y<;>simp[e,j,l]
def key(c:ByteArray):Lit:=.string c.data.toList
theorem key_inj{a b:ByteArray}(h:key a=key b):a=b:=by obtain⟨⟨l⟩⟩:=a;obtain⟨⟨m⟩⟩:=b;simp[key]at h;rw[h]
theorem XX{l:List Elem}(p:l.Pairwise (fun a b=>ju b a=false))(r:l.Pairwise (fun a b=>a.code≠b.code)):l.Pairwise (fun a b=>ju a b=true):=by
 refine(p.and r).imp ?_;rintro a b ⟨j,n⟩;rw[ju,B2]at j|-;simp only[asF,asM,ar7]at j|-;have u:a.code.toList≠b.code.toList:=by intro e;apply n;rw[ByteArray.toList_eq,ByteArray.toList_eq]at e;exact key_inj (by simp[key,e])
 exact Decidable.byContradiction fun h=>u (List.le_antisymm j (asM.1 h))
def cE:List Elem->List UInt8->Int
 |[],_=>0
 |x::l,c=>(if x.code.data.toList=c then x.amount else 0)+cE l c
def fN(l:List Elem)(c:List UInt8):Bool:=l.any fun x=>decide (x.code.data.toList=c)
theorem VD{a b:ByteArray}(h:a.data.toList=b.data.toList):a=b:=key_inj (by simp[key,h])
theorem Fp(x y:Elem):ju x y=true↔x.code.data.toList<y.code.data.toList:=by rw[ju,B2,ByteArray.toList_eq,ByteArray.toList_eq];simp
theorem ad8{x y z:Elem}(e:ju x y=true)(j:ju y z=true):ju x z=true:=by rw[Fp]at*;exact List.lt_trans e j
theorem aki(x:Elem):ju x x=false:=by
 cases h:ju x x
 ·rfl
 ·rw[Fp]at h;exact absurd h (ate _)
def jc(l:List Elem):Prop:=l.Pairwise (fun a b=>ju a b=true)
theorem NN(l m:List Elem)(c:List UInt8):cE (l++m) c=cE l c+cE m c:=by
 induction l with
 |nil=>simp[cE]
 |cons a l e=>simp[cE,e];omega
theorem Uh(l m:List Elem)(c:List UInt8):fN (l++m) c=(fN l c||fN m c):=by simp[fN]
theorem akj(l:List Elem)(e:Elem)(c:List UInt8):cE (put l e) c=cE l c+(if e.code.data.toList=c then e.amount else 0):=by
 induction l with
 |nil=>simp[put,cE]
 |cons a l j=>
  rw[put];split
  ·simp only[cE,j];omega
  ·split
   ·rename_i h;have n:a.code.data.toList=e.code.data.toList:=by
     rw[ByteArray.toList_eq,ByteArray.toList_eq]at h;simpa using h
    simp only[cE,n];split<;>omega
   ·simp only[cE];omega
theorem akk(l:List Elem)(e:Elem)(c:List UInt8):fN (put l e) c=(fN l c||decide (e.code.data.toList=c)):=by
 induction l with
 |nil=>simp[put,fN]
 |cons a l j=>
  rw[put];unfold fN at j|-;split
  ·simp only[List.any_cons,j,Bool.or_assoc]
  ·split
   ·rename_i h;have n:a.code.data.toList=e.code.data.toList:=by
     rw[ByteArray.toList_eq,ByteArray.toList_eq]at h;simpa using h
    simp only[List.any_cons,n];cases decide (e.code.data.toList=c)<;>simp
   ·simp only[List.any_cons];cases decide (e.code.data.toList=c)<;>simp
theorem sorted_put{l:List Elem}(h:jc l)(e:Elem):jc (put l e):=by
 induction l with
 |nil=>simp[put,jc]
 |cons a l C=>
  obtain⟨p,z⟩:=asJ.1 h;rw[put];split
  ·rename_i n;refine asJ.2 ⟨fun x hx=>?_,C z⟩;rcases Z8 l e x hx with j|⟨y,hy,j⟩
   ·rw[Fp,j,<-Fp];exact n
   ·rw[Fp,<-j,<-Fp];exact p y hy
  ·rename_i n;split
   ·rename_i j;have r:e.code=a.code:=by
     apply VD;rw[ByteArray.toList_eq,ByteArray.toList_eq]at j;exact(by simpa using j:a.code.data.toList=e.code.data.toList).symm
    refine asJ.2 ⟨fun x hx=>?_,z⟩;rw[Fp];show e.code.data.toList<_;rw[r,<-Fp];exact p x hx
   ·rename_i j;have B:ju e a=true:=by
     rw[Fp]at n|-;rw[ByteArray.toList_eq,ByteArray.toList_eq]at j;have u:¬a.code.data.toList=e.code.data.toList:=(by simpa using j);exact Decidable.byContradiction fun h=>u (List.le_antisymm (asM.1 h) (asM.1 n))
    refine asJ.2 ⟨fun x hx=>?_,h⟩;rcases asb.1 hx with rfl|hx
    ·exact B
    ·exact ad8 B (p x hx)
theorem VF(l:List Elem):∀e,jc e->jc (l.foldl put e)/\(∀c,cE (l.foldl put e) c=cE e c+cE l c)/\∀c,fN (l.foldl put e) c=(fN e c||fN l c):=by
 induction l with
 |nil=>intro e h;exact⟨h,fun c=>by simp[cE],fun c=>by simp[fN]⟩
 |cons a l j=>
  intro e h;obtain⟨n,p,r⟩:=j (put e a) (sorted_put h a);refine⟨n,fun c=>?_,fun c=>?_⟩
  ·rw[asR,p,akj];simp only[cE];omega
  ·rw[asR,r,akk];simp only[fN,List.any_cons,Bool.or_assoc]
theorem Jg(l:List Elem):jc (bF l):=(VF l [] List.Pairwise.nil).1
theorem Rx(l:List Elem)(c:List UInt8):cE (bF l) c=cE l c:=by have:=(VF l [] List.Pairwise.nil).2.1 c;simpa[cE,bF]using this
theorem Ry(l:List Elem)(c:List UInt8):fN (bF l) c=fN l c:=by have:=(VF l [] List.Pairwise.nil).2.2 c;simpa[fN,bF]using this
theorem akl{l:List Elem}{c:List UInt8}(h:∀x∈l,x.code.data.toList≠c):cE l c=0:=by
 induction l with
 |nil=>rfl
 |cons a l e=>simp only[cE,arJ (h a (by simp))];rw[e (fun x j=>h x (by simp[j]))];rfl
theorem mem_sorted{l:List Elem}(h:jc l)(x:Elem):x∈l↔(fN l x.code.data.toList=true/\x.amount=cE l x.code.data.toList):=by
 induction l with
 |nil=>simp[fN]
 |cons a l p=>
  obtain⟨u,z⟩:=asJ.1 h;have p:=p z;have j:∀y∈l,y.code.data.toList≠a.code.data.toList:=by intro y hy e;have:=u y hy;rw[Fp,e]at this;exact ate _ this
  by_cases n:a.code.data.toList=x.code.data.toList
  ·have B:cE l x.code.data.toList=0:=(by rw[<-n];exact akl j);simp only[fN,List.any_cons,cE,n,decide_true,Bool.true_or,ash,B,true_and,asb];constructor
   ·rintro(rfl|hx)
    ·omega
    ·exact absurd n.symm (j x hx)
   ·intro hx;left;obtain⟨C,D⟩:=x;obtain⟨E,F⟩:=a;have:=VD n;simp only at this hx;subst this;congr;omega
  ·have r:x≠a:=(by rintro rfl;exact n rfl);simp only[fN,List.any_cons,cE,n,decide_false,Bool.false_or,asj,Int.zero_add,asb,r,false_or];exact p
theorem Uj:∀{l m:List Elem},jc l->jc m->(∀x,x∈l↔x∈m)->l=m
 |[],[],_,_,_=>rfl
 |[],b::s,_,_,h=>by have:=(h b).2 (by simp);simp at this
 |a::r,[],_,_,h=>by have:=(h a).1 (by simp);simp at this
 |a::r,b::s,B,C,h=>by
  obtain⟨u,D⟩:=asJ.1 B;obtain⟨y,E⟩:=asJ.1 C;have Ej:∀x:Elem,¬ju x x=true:=fun x z=>by rw[aki]at z;cases z
  have n:a=b:=by
   rcases asb.1 ((h a).1 (by simp))with e|ha
   ·exact e
   ·rcases asb.1 ((h b).2 (by simp))with e|hb
    ·exact e.symm
    ·exact absurd (ad8 (u b hb) (y a ha)) (Ej _)
  subst n;rw[Uj D E (fun p=>⟨fun j=>by
   rcases asb.1 ((h p).1 (by simp[j]))with e|MG
   ·subst e;exact absurd (u _ j) (Ej _)
   ·exact MG,fun j=>by
   rcases asb.1 ((h p).2 (by simp[j]))with e|MG
   ·subst e;exact absurd (y _ j) (Ej _)
   ·exact MG⟩)]
theorem akm{l e:List Elem}(h:jc e)(j:∀x:Elem,x∈e↔(fN l x.code.data.toList=true/\x.amount=cE l x.code.data.toList/\x.amount≠0)):e=(bF l).filter nz:=by refine Uj h ((Jg l).filter _) fun x=>?_;rw[j,asY,mem_sorted (Jg l),Ry,Rx];simp[nz,and_assoc]
def nB(a b:Int):Int:=if a<b then-1 else if b<a then 1 else 0
def Cj(n:Int):Bool:=decide (-1000000000000<=n/\n<=1000000000000)
theorem akn(a:Int)(w:World):Calls prog 125 #[.int .i64 a] w fun e w'=>e=.returned (.bool false)/\w=w':=by go_enter func125,ntmps125;go_wp2;go_ret;exact⟨by simp,rfl⟩
theorem QK(a b:Int)(w:World):Calls prog 84 #[.int .i64 a,.int .i64 b] w fun e w'=>e=.returned (.int .i64 (nB a b))/\w=w':=by
 go_enter func84,ntmps84;go_wp2_with(go_at_call 125;refine(akn _ _).mono ?_;rintro e w' ⟨rfl,rfl⟩)
 all_goals go_ret
 all_goals refine⟨?_,rfl⟩
 all_goals(simp[nB, *];try omega)
def II(a b:Int):Int:=if a≠0 then a else b
theorem acv(a b:Int)(c g j:Nat)(w:World)(z:w.cell? ⟨g,j,none⟩=some (.int .i64 a))(B:w.cell? ⟨g,j+1,none⟩=some (.int .i64 b)):
  Calls prog 83 #[.slice (some ⟨g,j,none⟩) 2 c] w fun e w'=>e=.returned (.int .i64 (II a b))/\w=w':=by
 by_cases l:a=0
 ·have p:Hid (II a b=b):=by simp[Hid,II,l]
  have r:(a !=0)=false:=by simp[l]
  clear l;by_cases n:b=0
  ·have y:=arH n;have u:(b !=0)=false:=(by simp[n]);clear n;go_enter func83,ntmps83;go_wp2;refine wp_loop_rounds 3 ?_;rw[rounds_succ];go_wp2;rw[rounds_succ];go_wp2;rw[rounds_succ];go_wp2;go_ret;exact⟨by rw[p.out,y.out];rfl,rfl⟩
  ·have u:(b !=0)=true:=(by simp[n]);clear n;go_enter func83,ntmps83;go_wp2;refine wp_loop_rounds 2 ?_;rw[rounds_succ];go_wp2;rw[rounds_succ];go_wp2;go_ret;exact⟨by rw[p.out];rfl,rfl⟩
 ·have p:Hid (II a b=a):=by simp[Hid,II,l]
  have r:(a !=0)=true:=by simp[l]
  clear l;go_enter func83,ntmps83;go_wp2;refine wp_loop_rounds 1 ?_;rw[rounds_succ];go_wp2;go_ret;exact⟨by rw[p.out];rfl,rfl⟩
def Dr(low l:Int)(j:Bool)(e:Int):Bool:=
 if e=0 then !j else if e=1 then j else if e=2 then false else if e=3 then true else if l≠0 then decide (0<l)else if e=4 then j else if e=5 then !j else low.tmod 2!=0
def eZ(num den mode:Int):Int:=if num%den=0 then num/den else if Dr (num/den) (nB (num%den) (den-num%den)) (decide (0<num)) mode then num/den+1 else num/den
def ED(m:Int):Bool:=decide (0<=m/\m<=6)
def Jh(a num j e l:Int):Bool:=decide (-1000000000000<=a/\a<=1000000000000/\0<=num/\num<=1000000/\1<=j/\j<=1000000/\1<=e/\e<=1000000)&&ED l
def mF(a num den unit mode:Int):Int:=eZ (a*num) (den*unit) mode*unit
def mG(a num l e j:Int):Int:=if Jh a num l e j=false then 2 else if Cj (mF a num l e j)=false then 4 else 0
def gM(a num e unit mode:Int):Int:=if mG a num e unit mode=0 then mF a num e unit mode else 0
theorem ad9(v n:Int)(e:0<n)(h:0<=v.tmod n):v.tdiv n=v/n/\v.tmod n=v%n:=by
 have p:=Int.tmod_add_mul_tdiv v n;have r:=as8 v n;have u:=asP v (show n≠0 by omega);have y:=asQ v e;have z:=Int.tmod_lt_of_pos v e;have j:n*(v.tdiv n-v/n)=v%n-v.tmod n:=by rw[Int.mul_sub];omega
 have l:v.tdiv n-v/n=0:=by
  rcases atc (v.tdiv n-v/n) 0 with h|h|h
  ·have:n*(v.tdiv n-v/n)<=n*(-1):=asq (by omega) (by omega);omega
  ·exact h
  ·have:n*1<=n*(v.tdiv n-v/n):=asq (by omega) (by omega);omega
 rw[l]at j;omega
theorem tdiv_neg(v n:Int)(e:0<n)(h:v.tmod n<0):v.tdiv n-1=v/n/\v.tmod n+n=v%n:=by
 have p:=Int.tmod_add_mul_tdiv v n;have r:=as8 v n;have u:=asP v (show n≠0 by omega);have y:=asQ v e;have z:-n<v.tmod n:=by have:=Int.lt_tmod_of_pos v e;omega
 have j:n*(v.tdiv n-v/n-1)=v%n-(v.tmod n+n):=by rw[Int.mul_sub,Int.mul_sub];omega
 have l:v.tdiv n-v/n-1=0:=by
  rcases atc (v.tdiv n-v/n-1) 0 with h|h|h
  ·have:n*(v.tdiv n-v/n-1)<=n*(-1):=asq (by omega) (by omega);omega
  ·exact h
  ·have:n*1<=n*(v.tdiv n-v/n-1):=asq (by omega) (by omega);omega
 rw[l]at j;omega
theorem Z9(v n:Int)(e:0<n)(B:Int)(j:-B<=v)(l:v<=B)(p:0<=B):-B<=v/n/\v/n<=B:=by
 constructor
 ·rw[Int.le_ediv_iff_mul_le e];have:-B*n<=-B*1:=Int.mul_le_mul_of_nonpos_left (by omega) (by omega);omega
 ·apply Int.ediv_le_of_le_mul e;have:B*1<=B*n:=asq (by omega) (by omega);omega
theorem aea(low j:Int)(n:Bool)(l:Int)(w:World):
  Calls prog 174 #[.int .i64 low,.int .i64 j,.bool n,.int .i64 l] w fun e w'=>e=.returned (.bool (Dr low j n l))/\w=w':=by
 go_enter func174,ntmps174;go_wp2
 all_goals go_ret
 all_goals refine⟨?_,rfl⟩
 all_goals(simp_all[Dr])
theorem Fq(m:Int)(w:World):Calls prog 115 #[.int .i64 m] w fun e w'=>e=.returned (.bool (ED m))/\w=w':=by
 by_cases l:0<=m<;>by_cases n:m<=6
 all_goals
  have j:ED m=(decide (0<=m)&&decide (m<=6)):=by simp[ED]
  have p:=arH j;clear j;go_enter func115,ntmps115;go_wp2;go_ret;exact⟨by rw[p.out];simp[l,n],rfl⟩
theorem Cy(m:Int)(w:World):Calls prog 179 #[.int .i64 m] w fun e w'=>e=.returned (.bool (ED m))/\w=w':=by
 by_cases l:0<=m<;>by_cases n:m<=6
 all_goals
  have j:ED m=(decide (0<=m)&&decide (m<=6)):=by simp[ED]
  have p:=arH j;clear j;go_enter func179,ntmps179;go_wp2;go_ret;exact⟨by rw[p.out];simp[l,n],rfl⟩
theorem aaa(num j l:Int)(w:World)(K:-1000000000000000000<=num)(L:num<=1000000000000000000)(B:0<j)(S:j<=1000000000000):
  Calls prog 116 #[.int .i64 num,.int .i64 j,.int .i64 l] w fun e w'=>e=.returned (.int .i64 (eZ num j l))/\∃q,w'=w.drewN q:=by
 have M:=Z9 num j B 1000000000000000000 K L (by omega);obtain⟨E,F⟩:=M;have p:=asP num (show j≠0 by omega);have r:=asQ num B;have T:(j==0)=false:=by simp;omega
 by_cases N:num.tmod j<0
 ·obtain⟨u,y⟩:=tdiv_neg num j B N;have n:eZ num j l=if num%j=0 then num/j else if Dr (num/j) (nB (num%j) (j-num%j)) (decide (0<num)) l then num/j+1 else num/j:=rfl
  rw[<-u,<-y]at n;have O:-1000000000000000000<=num.tdiv j:=by omega
  have G:num.tdiv j<=1000000000000000001:=by omega
  have U:0<num.tmod j+j:=by have:=Int.lt_tmod_of_pos num B;omega
  have P:num.tmod j<j:=by omega
  have Q:-1000000000000<num.tmod j:=by omega
  have J:((num.tmod j+j)!=0)=true:=by simp;omega
  rw[arJ (by omega)]at n;have C:=arH n;clear n u y E F p r;cases hu:Dr (num.tdiv j-1) (nB (num.tmod j+j) (j-(num.tmod j+j))) (decide (0<num)) l
  all_goals have D:=arH hu;clear hu;go_enter func116,ntmps116;go_wp2;go_quiet(fail);go_wp2_with fail;refine(QK _ _ _).mono ?_;rintro e I ⟨rfl,rfl⟩;go_wp2_with fail;refine(aea _ _ _ _ _).mono ?_;rintro e I ⟨rfl,rfl⟩;rw[D.out];go_wp2;go_ret;exact⟨by rw[C.out,D.out];first|rfl|simp,_,rfl⟩
 ·have R:0<=num.tmod j:=by omega
  obtain⟨u,y⟩:=ad9 num j B R;have n:eZ num j l=if num%j=0 then num/j else if Dr (num/j) (nB (num%j) (j-num%j)) (decide (0<num)) l then num/j+1 else num/j:=rfl
  rw[<-u,<-y]at n;have O:-1000000000000000000<=num.tdiv j:=by omega
  have G:num.tdiv j<=1000000000000000000:=by omega
  have P:num.tmod j<j:=by omega
  have Q:num.tmod j<1000000000000:=by omega
  by_cases z:num.tmod j=0
  ·rw[arK z]at n;have C:=arH n;have J:(num.tmod j !=0)=false:=(by simp[z]);clear n u y E F p r z;go_enter func116,ntmps116;go_wp2;go_quiet(fail);go_wp2;go_ret;exact⟨by rw[C.out];first|rfl|simp,_,rfl⟩
  ·rw[arJ z]at n;have C:=arH n;have J:(num.tmod j !=0)=true:=(by simp[z]);clear n u y E F p r z;cases hu:Dr (num.tdiv j) (nB (num.tmod j) (j-num.tmod j)) (decide (0<num)) l
   all_goals have D:=arH hu;clear hu;go_enter func116,ntmps116;go_wp2;go_quiet(fail);go_wp2_with fail;refine(QK _ _ _).mono ?_;rintro e I ⟨rfl,rfl⟩;go_wp2_with fail;refine(aea _ _ _ _ _).mono ?_;rintro e I ⟨rfl,rfl⟩;rw[D.out];go_wp2;go_ret;exact⟨by rw[C.out,D.out];first|rfl|simp,_,rfl⟩
