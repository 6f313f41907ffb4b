/- Conditions: as stated. -/
import Derived.Test.YtlhkojcmcmkmaaaGreatCLeaf
set_option maxHeartbeats 2000000
namespace Go.Proofs.YtlhkojcmcmkmaaaGreat
open Go.Proofs.Tryz
open Go.RowKit
def PK(a b:List Elem):Bool:=decide (a=b)
def PL(a b:ByteArray)(x y:Int):Bool:=(a.toList==b.toList)&&(x==y)
theorem al5(a b:ByteArray)(x y:Int)(w:World):Sem.run prog (binOp .neq 69 (.agg #[.string a,.int .i64 x]) (.agg #[.string b,.int .i64 y])) w=.ok (.bool (!PL a b x y)) w:=by
 have u3:=underlying3;have u9:=underlying9;have n:=Tryz.isAgg3;have p:=Tryz.sizeOf3;have r:=Tryz.isAgg9;have u:=Tryz.sizeOf9;have hS:Tryz.prog.underlying 69=some (.struct (Tryz.prog.fieldsOf 69)):=by kernel_rfl
 have e:Tryz.prog.stoodInHeld 69=false:=by kernel_rfl
 rw[run_neq_struct,show(10000:Nat)=9999+1 from rfl,run_equalIn_agg w 9999 69 _ _ hS e];simp only[Program.fieldsOf,underlying69];go_simp;by_cases j:a.toList=b.toList<;>by_cases l:x=y<;>simp[j,l,PL]
theorem al6:Tryz.prog.eqGuardType Tryz.prog.depth 69=false:=by kernel_rfl
theorem afr(x y:Elem):PL x.code y.code x.amount y.amount=true↔x=y:=by obtain⟨a,p⟩:=x;obtain⟨b,q⟩:=y;simp only[PL,aub,beq_iff_eq,Elem.mk.injEq,ByteArray.toList_eq];refine⟨fun⟨e,j⟩=>⟨?_,j⟩,fun⟨e,j⟩=>⟨by rw[e],j⟩⟩;obtain⟨⟨l⟩⟩:=a;obtain⟨⟨m⟩⟩:=b;simp at e;rw[e]
theorem al7(A B:Option Addr)(c d:Nat)(l n:List Elem)(w:World)(N:Nat)(K:ai aN 2 w N A l)(hy:ai aN 2 w N B n)(U:l.length<=9223372036854775807)(L:n.length<=9223372036854775807):
  Calls prog 62 #[.slice A l.length c,.slice B n.length d] w fun e w'=>e=.returned (.bool (PK l n))/\∃q,w'=w.drewN q:=by
 by_cases p:l.length=n.length
 ·have M:((l.length:Int)!=(n.length:Int))=false:=by simp[p]
  have E:=atM p;have O:l.length<=n.length:=by omega
  clear p;go_enter func62,ntmps62;go_wp2
  go_loopw [5] (fun i wr=>∃k q:Nat,k<=l.length/\i=.int .i64 k/\Hid (∀j,j<k->l[j]?=n[j]?)/\Hid (wr=w.drewN q)) (fun i _=>l.length-(intOf i).toNat)
  case atStart=>exact⟨0,0,by omega,rfl,fun j I=>absurd I (by omega),rfl⟩
  case round=>
   obtain⟨k,q,V,rfl,r,z⟩:=hrel;have P:ai aN 2 wr N A l:=(by rw[z.out];exact K);have F:ai aN 2 wr N B n:=(by rw[z.out];exact hy);by_cases C:k<l.length
   ·have J:k<n.length:=(by omega);obtain⟨X,Y,rfl,Q,u⟩:=P.at_ C;obtain⟨Z,Ep,rfl,R,y⟩:=F.at_ J;have S:=u 0 _ rfl;have c1:=u 1 _ rfl;have d0:=y 0 _ rfl;have d1:=y 1 _ rfl;simp only[atQ]at S d0;clear u y;have hn:=fun(w:World)=>al5 l[k].code n[k].code l[k].amount n[k].amount w;have T:=al6;by_cases D:PL l[k].code n[k].code l[k].amount n[k].amount=true
    ·have G:=atM D;go_wp2;go_quiet(fail);go_wp2;go_roundw
     case rel=>
      refine⟨k+1,q+nq,by omega,by go_num,fun j I=>?_,?_⟩
      ·rcases at6 j k with h1|h1
       ·exact r.out j h1
       ·obtain rfl:j=k:=by omega
        rw[atW C,atW J,(afr _ _).1 G.out]
      ·show wr.drewN nq=w.drewN (q+nq);rw[z.out,World.drewN_drewN]
     case measure=>simp[intOf];omega
    ·have FA:PL l[k].code n[k].code l[k].amount n[k].amount=false:=(by simpa using D);have G:Hid (¬l=n):=fun e=>D ((afr _ _).2 (by simp[e]));clear D;go_wp2;go_quiet(fail);go_wp2;go_ret;exact⟨by rw[PK,auO G.out];rfl,q+nq,by rw[z.out,World.drewN_drewN]⟩
   ·go_wp2;go_ret;have:l=n:=by
     apply List.ext_getElem?;intro j;rcases at6 j k with h1|h1
     ·exact r.out j h1
     ·have:=E.out;rw[avu (by omega),avu (by omega)]
    exact⟨by rw[PK,auL this];rfl,q,z.out⟩
 ·have M:((l.length:Int)!=(n.length:Int))=true:=by simp;omega
  have E:Hid (¬l=n):=fun e=>p (by rw[e]);clear p;go_enter func62,ntmps62;go_wp2;go_ret;exact⟨by rw[PK,auO E.out];rfl,0,rfl⟩
def ij(x y:Elem):Bool:=Op.bytesLess x.code.toList y.code.toList
def put(xs:List Elem)(e:Elem):List Elem:=
 match xs with
 |[]=>[e]
 |x::r=>if ij x e then x::put r e else if x.code.toList==e.code.toList then⟨e.code,e.amount+x.amount⟩::r else e::x::r
theorem aaO(e:Elem):∀(l:List Elem) (k:Nat),k<=l.length->(∀j,(h:j<l.length)->j<k->ij l[j] e=true)->put l e=l.take k++put (l.drop k) e:=by
 intro l
 induction l with
 |nil=>intro k n _;simp
 |cons x r u=>
  intro k n h;cases k with
  |zero=>simp
  |succ k=>have p:=h 0 (by simp) (by omega);simp at p;rw[put,atP p,avg,avw,List.cons_append];rw[<-u k (by simp at n;omega) (fun j z y=>by have:=h (j+1) (by simp;omega) (by omega);simpa using this)]
theorem put_eq{xs:List Elem}{e:Elem}{k:Nat}(l:k<xs.length)(h:∀j,(h:j<xs.length)->j<k->ij xs[j] e=true)(n:ij xs[k] e=false)(p:(xs[k].code.toList==e.code.toList)=true):
  put xs e=xs.take k++[⟨e.code,e.amount+xs[k].amount⟩]++xs.drop (k+1):=by
 rw[aaO e xs k (by omega) h,avD l,put,n,p];simp
theorem al8{xs:List Elem}{e:Elem}{k:Nat}(l:k<xs.length)(h:∀j,(h:j<xs.length)->j<k->ij xs[j] e=true)(n:ij xs[k] e=false)(p:(xs[k].code.toList==e.code.toList)=false):
  put xs e=xs.take k++[e]++xs.drop k:=by
 rw[aaO e xs k (by omega) h,avD l,put,n,p];simp
theorem al9{xs:List Elem}{e:Elem}(h:∀j,(h:j<xs.length)->ij xs[j] e=true):put xs e=xs.take xs.length++[e]++xs.drop xs.length:=by rw[aaO e xs xs.length (atN _) (fun j l _=>h j l)];simp[put]
theorem RX(A:Option Addr)(cap:Nat)(xs:List Elem)(e:Elem)(w:World)(h:ai aN 2 w w.heap.size A xs)(hc:xs.length<=cap)(T:cap<=maxLen)(hl:xs.length<=1000000)
  (hx:∀x∈xs,-1000000000000000<=x.amount/\x.amount<=1000000000000000) (Vd:-1000000000000000<=e.amount) (Ve:e.amount<=1000000000000000):
  Calls prog 136 #[.slice A xs.length cap,.agg #[.string e.code,.int .i64 e.amount]] w fun r w'=>∃v,r=.returned v/\Own aN 2 69 w' w.heap.size v (put xs e)/\Below w.heap.size w w':=by
 have HX:=atM hx;clear hx;have ad:cap<=9223372036854775807:=T;clear T;go_enter func136,ntmps136;go_wp2
 go_loopw [5,6] (fun v i wr=>∃k:Nat,k<=xs.length/\i=.int .i64 k/\Hid (∀j,(P:j<xs.length)->j<k->ij xs[j] e=true)/\Own aN 2 69 wr (w.heap.size+1) v (xs.take k)/\ah wr w.heap.size 69 #[.string e.code,.int .i64 e.amount]/\Below w.heap.size w wr) (fun _ i _=>xs.length-(intOf i).toNat)
 case atStart=>exact⟨0,by omega,rfl,fun j _ P=>absurd P (by omega),by simpa using Own.cC _ _,ah.new _ _ _,(atS _ _).alloc (atN _) _⟩
 case round=>
  obtain⟨k,hk,rfl,z,l,u,G⟩:=hrel;have V:=u.cell 0;have X:=u.cell 1;have f1:=u.frozen 1;have af:=u.lt;simp only[aq,ar,au]at V X;by_cases C:k<xs.length
  ·obtain⟨b,off,Z,hb,y⟩:=(h.below G).at_ C;have c0:=y 0 _ rfl;have c1:=y 1 _ rfl;simp only[atQ]at c0;clear y;by_cases Db:Op.bytesLess xs[k].code.toList e.code.toList=true
   ·subst Z;have SH:=atM Db;go_wp2;go_quiet(fail);go_wp2_with(at_builtin;(refine lD _ _ 51 ⟨xs[k].code,xs[k].amount⟩ _ 24 _ nQ underlying51 (l.drewN nq) dG (by omega) rfl (mF _) (by simp;omega) (by omega) (by simp;omega) (by rfl) (by rfl) (by rfl) (by rfl) (by simp) (by rfl) ?_);intro v2 F D E);go_roundw
    case rel=>
     have I:=fun g n=>(l.bR (g:=g) n).1;refine⟨k+1,by omega,by go_num,fun j P aj=>?_,?_,(u.drewN nq).grown E (fun e=>by have:=I _ e.symm;omega),(below_drewN G nq).grown E (by simp;omega) (fun g n=>by have:=I g n;omega)⟩
     ·rcases at6 j k with h1|h1
      ·exact z.out j P h1
      ·obtain rfl:j=k:=by omega
       exact SH.out
     ·rw[aud C];exact D
    case measure=>simp[intOf];omega
   ·have U:Op.bytesLess xs[k].code.toList e.code.toList=false:=(by simpa using Db);clear Db;by_cases L:(xs[k].code.toList==e.code.toList)=true
    ·subst Z;have Q:=atM (put_eq C z.out U L);have SC:=HX.out _ (atT C);obtain⟨ak,al⟩:=SC;go_wp2;go_quiet(fail);go_wp2;go_quiet(fail);go_wp2
     go_region
     generalize Y:World.setCell (World.drewN wr _) _ _=W;have Ph:ah W w.heap.size 69 #[.string e.code,.int .i64 (e.amount+xs[k].amount)]:=by rw[<-Y];simpa using(u.drewN _).eh 1 (.int .i64 (e.amount+xs[k].amount))
     have SI:Own aN 2 69 W (w.heap.size+1) u5 (xs.take k):=by rw[<-Y];exact(l.drewN _).setCell (p:=⟨w.heap.size,1,none⟩) (fun g n=>by have:=(l.bR n).1;show g≠w.heap.size;omega) _
     have Sd:Below w.heap.size w W:=(by rw[<-Y];exact iq (below_drewN G _) (atN _) 1 _);clear Y;have am:=Ph.lt;obtain⟨a0,a1⟩:=Ph.cz2;have I:=fun g n=>(SI.bR (g:=g) n).1;have HS:=atM h;have j0:((k:Int)+1)<=(cap:Int):=(by omega);clear c0 c1 V X f1 u l G h;go_upto_region 10 with(at_builtin;(refine lD _ _ 51 ⟨e.code,e.amount+xs[k].amount⟩ _ 24 _ nQ underlying51 SI dG (by omega) rfl (mF _) (by simp;omega) (by omega) (by omega) (by rfl) (by rfl) (by rfl) (by rfl) (by simp) (by rfl) ?_);intro v2 F D E)
     have J:Below w.heap.size w F:=Sd.grown E (by omega) (fun g n=>by have:=I g n;omega);have R:w.heap.size+1<=F.heap.size:=(by have:=E.size;omega);have S:=fun g n=>(D.bR (g:=g) n).1;rcases at6 (k+1) cap with Rk|Rk
     ·have hcut:=(HS.out.below J).cut (i:=k+1) (cap:=cap) (by omega) (by omega);rw[atO (by omega)]at hcut;simp only[Option.map_some,Addr.add,show¬(k+1)*2=0 by omega,auw]at hcut;go_wp2_with(at_builtin;(refine Jc (ys:=xs.drop (k+1)) _ _ 51 _ 24 _ nQ underlying51 D hcut dG (by omega) rfl mF (by simp;omega) (by omega) R (by rfl) (by rfl) (by rfl) (by rfl) (by simp) ?_);intro M w7 N O);go_ret;refine⟨M,rfl,?_,J.grown O (by omega) (fun g n=>by have:=S g n;omega)⟩;rw[Q.out];exact N.weaken (by omega)
     ·have K:xs.drop (k+1)=[]:=List.drop_eq_nil_of_le (by omega);have HN:=atM K;clear K;obtain rfl:cap=k+1:=by omega
      go_wp2_with(at_builtin;(refine Jc (B:=0) (ys:=[]) _ _ 51 _ 24 _ nQ underlying51 D ai.cC dG (by omega) rfl mF (by simp<;>omega) (by omega) R (by rfl) (by rfl) (by rfl) (by rfl) (by simp<;>omega) ?_);intro M w7 N O);go_ret;refine⟨M,rfl,?_,J.grown O (by omega) (fun g n=>by have:=S g n;omega)⟩;rw[Q.out,HN.out];exact N.weaken (by omega)
    ·have ab:(xs[k].code.toList==e.code.toList)=false:=(by simpa using L);clear L;subst Z;have Q:=atM (al8 C z.out U ab);go_wp2;go_quiet(fail);go_wp2;go_quiet(fail);go_upto_region 10 with(at_builtin;(refine lD _ _ 51 e _ 24 _ nQ underlying51 (l.drewN _) dG (by omega) rfl (mF _) (by simp;omega) (by omega) (by simp;omega) (by rfl) (by rfl) (by rfl) (by rfl) (by simp) (by rfl) ?_);intro v2 F D E)
     have I:=fun g n=>(l.bR (g:=g) n).1;have R:w.heap.size+1<=F.heap.size:=(by have:=E.size;simp at this;omega);have J:Below w.heap.size w F:=(below_drewN G _).grown E (by simp;omega) (fun g n=>by have:=I g n;omega);have S:=fun g n=>(D.bR (g:=g) n).1;have hcut:=(h.below J).cut (i:=k) (cap:=cap) (by omega) (by omega);rw[atO (by omega)]at hcut;have qC:(⟨b,off,none⟩:Addr).add (k*2)=⟨b,off+k*2,none⟩:=by unfold Addr.add;split<;>simp_all
     simp only[Option.map_some,qC]at hcut;have VB:¬cap=k:=(by omega);clear c0 c1 V X f1 u l G h qC;go_wp2_with(at_builtin;(refine Jc (ys:=xs.drop k) _ _ 51 _ 24 _ nQ underlying51 D hcut dG (by omega) rfl mF (by simp;omega) (by omega) R (by rfl) (by rfl) (by rfl) (by rfl) (by simp) ?_);intro M w7 N O);go_ret;refine⟨M,rfl,?_,J.grown O (by omega) (fun g n=>by have:=S g n;omega)⟩;rw[Q.out];exact N.weaken (by omega)
  ·have Q:=atM (al9 (xs:=xs) (e:=e) (fun j P=>z.out j P (by omega)));obtain rfl:k=xs.length:=by omega
   have an:decide ((xs.length:Int)<(xs.length:Int))=false:=(by simp);have ao:decide (xs.length<xs.length)=false:=(by simp);go_wp2;go_quiet(fail);go_wp2;go_quiet(fail);go_upto_region 10 with(at_builtin;(refine lD _ _ 51 e _ 24 _ nQ underlying51 (l.drewN _) dG (by omega) rfl (mF _) (by simp;omega) (by omega) (by simp;omega) (by rfl) (by rfl) (by rfl) (by rfl) (by simp) (by rfl) ?_);intro v2 F D E)
   have I:=fun g n=>(l.bR (g:=g) n).1;have R:w.heap.size+1<=F.heap.size:=(by have:=E.size;simp at this;omega);have J:Below w.heap.size w F:=(below_drewN G _).grown E (by simp;omega) (fun g n=>by have:=I g n;omega);have S:=fun g n=>(D.bR (g:=g) n).1;clear V X f1 u l G h;go_wp2_with(at_builtin;(refine Jc (B:=0) (ys:=[]) _ _ 51 _ 24 _ nQ underlying51 D ai.cC dG (by omega) rfl mF (by simp<;>omega) (by omega) R (by rfl) (by rfl) (by rfl) (by rfl) (by simp) ?_);intro M w7 N O)
   all_goals go_ret;refine⟨M,rfl,?_,J.grown O (by omega) (fun g n=>by have:=S g n;omega)⟩;rw[Q.out];simpa using N.weaken (by omega)
def bG(l:List Elem):List Elem:=l.foldl put []
def nz(x:Elem):Bool:=x.amount !=0
theorem aaL(l:List Elem)(x:Elem):bG (l++[x])=put (bG l) x:=by simp[bG,List.foldl_append]
def Jd(B:Int)(l:List Elem):Prop:=∀x∈l,-B<=x.amount/\x.amount<=B
theorem Jd.put{B C:Int}{l:List Elem}{e:Elem}(h:Jd B l)(p:0<=B)(r:0<=C)(u:-C<=e.amount)(y:e.amount<=C):Jd (B+C) (put l e):=by
 induction l with
 |nil=>intro x hx;simp[Go.Proofs.YtlhkojcmcmkmaaaGreat.put]at hx;subst hx;omega
 |cons a l n=>
  have z:=h a (by simp);have j:Jd B l:=fun x hx=>h x (by simp[hx]);intro x hx;rw[Go.Proofs.YtlhkojcmcmkmaaaGreat.put]at hx;split at hx
  ·rcases auf.1 hx with rfl|hx
   ·omega
   ·exact n j x hx
  ·split at hx
   ·rcases auf.1 hx with rfl|hx
    ·show-(B+C)<=e.amount+a.amount/\e.amount+a.amount<=B+C;omega
    ·have:=j x hx;omega
   ·rcases auf.1 hx with rfl|hx
    ·omega
    ·have:=h x hx;omega
theorem aaP(l:List Elem)(e:Elem):(put l e).length<=l.length+1:=by
 induction l with
 |nil=>simp[put]
 |cons a l j=>
  rw[put];split
  ·simp;omega
  ·split<;>simp
theorem aeq(l:List Elem):∀e:List Elem,(l.foldl put e).length<=e.length+l.length:=by
 induction l with
 |nil=>intro e;simp
 |cons a l j=>intro e;have n:=j (put e a);have p:=aaP e a;simp;omega
theorem Wc(l:List Elem):(bG l).length<=l.length:=by have:=aeq l [];simpa[bG]using this
theorem aaQ(l:List Elem)(e:Elem):∀x∈put l e,x.code=e.code\/∃y∈l,y.code=x.code:=by
 induction l with
 |nil=>intro x hx;simp[put]at hx;subst hx;exact .inl rfl
 |cons a l j=>
  intro x hx;rw[put]at hx;split at hx
  ·rcases auf.1 hx with rfl|hx
   ·exact .inr ⟨_,by simp,rfl⟩
   ·rcases j x hx with h|⟨y,hy,h⟩
    ·exact .inl h
    ·exact .inr ⟨y,by simp[hy],h⟩
  ·split at hx
   ·rcases auf.1 hx with rfl|hx
    ·exact .inl rfl
    ·exact .inr ⟨x,by simp[hx],rfl⟩
   ·rcases auf.1 hx with rfl|hx
    ·exact .inl rfl
    ·exact .inr ⟨x,hx,rfl⟩
theorem amb(l:List Elem):∀e,∀x∈l.foldl put e,(∃y∈l,y.code=x.code)\/∃y∈e,y.code=x.code:=by
 induction l with
 |nil=>intro e x j;exact .inr ⟨x,j,rfl⟩
 |cons a l p=>
  intro e x j;rcases p (put e a) x j with⟨y,hy,h⟩|⟨y,hy,h⟩
  ·exact .inl ⟨y,by simp[hy],h⟩
  ·rcases aaQ e a y hy with n|⟨z,r,n⟩
   ·exact .inl ⟨a,by simp,by rw[<-h,n]⟩
   ·exact .inr ⟨z,r,by rw[n,h]⟩
theorem Wz{l:List Elem}{x:Elem}(e:x∈bG l):∃y∈l,y.code=x.code:=by
 rcases amb l [] x e with h|⟨y,hy,_⟩
 ·exact h
 ·simp at hy
theorem amc{l:List Elem}(h:∀x∈l,x.code.size<=maxLen)(x:Elem)(j:x∈bG l):x.code.size<=maxLen:=by obtain⟨y,hy,e⟩:=Wz j;rw[<-e];exact h y hy
theorem Ce:∀(x y:List UInt8),Op.bytesLess x y=decide (x<y)
 |[],[]=>by simp[Op.bytesLess]
 |_::_,[]=>by simp[Op.bytesLess]
 |[],_::_=>by simp[Op.bytesLess]
 |a::x,b::y=>by rw[Op.bytesLess,Ce x y];simp only[List.cons_lt_cons_iff];by_cases e:a<b<;>by_cases j:a=b<;>by_cases l:x<y<;>simp[e,j,l]
def key(c:ByteArray):Lit:=.string c.data.toList
theorem key_inj{a b:ByteArray}(h:key a=key b):a=b:=by obtain⟨⟨l⟩⟩:=a;obtain⟨⟨m⟩⟩:=b;simp[key]at h;rw[h]
theorem YZ{l:List Elem}(p:l.Pairwise (fun a b=>ij b a=false))(r:l.Pairwise (fun a b=>a.code≠b.code)):l.Pairwise (fun a b=>ij a b=true):=by
 refine(p.and r).imp ?_;rintro a b ⟨j,n⟩;rw[ij,Ce]at j|-;simp only[auA,auP,auc]at j|-;have u:a.code.toList≠b.code.toList:=by intro e;apply n;rw[ByteArray.toList_eq,ByteArray.toList_eq]at e;exact key_inj (by simp[key,e])
 exact avx fun h=>u (List.le_antisymm j (auP.1 h))
def cR:List Elem->List UInt8->Int
 |[],_=>0
 |x::l,c=>(if x.code.data.toList=c then x.amount else 0)+cR l c
def fI(l:List Elem)(c:List UInt8):Bool:=l.any fun x=>decide (x.code.data.toList=c)
theorem WA{a b:ByteArray}(h:a.data.toList=b.data.toList):a=b:=key_inj (by simp[key,h])
theorem FB(x y:Elem):ij x y=true↔x.code.data.toList<y.code.data.toList:=by rw[ij,Ce,ByteArray.toList_eq,ByteArray.toList_eq];simp
theorem aaR{x y z:Elem}(e:ij x y=true)(j:ij y z=true):ij x z=true:=by rw[FB]at*;exact List.lt_trans e j
theorem aft(x:Elem):ij x x=false:=by
 cases h:ij x x
 ·rfl
 ·rw[FB]at h;exact absurd h (avi _)
def jb(l:List Elem):Prop:=l.Pairwise (fun a b=>ij a b=true)
theorem QR(l m:List Elem)(c:List UInt8):cR (l++m) c=cR l c+cR m c:=by
 induction l with
 |nil=>simp[cR]
 |cons a l e=>simp[cR,e];omega
theorem U5(l m:List Elem)(c:List UInt8):fI (l++m) c=(fI l c||fI m c):=by simp[fI]
theorem amd(l:List Elem)(e:Elem)(c:List UInt8):cR (put l e) c=cR l c+(if e.code.data.toList=c then e.amount else 0):=by
 induction l with
 |nil=>simp[put,cR]
 |cons a l j=>
  rw[put];split
  ·simp only[cR,j];omega
  ·split
   ·rename_i h;have n:a.code.data.toList=e.code.data.toList:=by
     rw[ByteArray.toList_eq,ByteArray.toList_eq]at h;simpa using h
    simp only[cR,n];split<;>omega
   ·simp only[cR];omega
theorem ame(l:List Elem)(e:Elem)(c:List UInt8):fI (put l e) c=(fI l c||decide (e.code.data.toList=c)):=by
 induction l with
 |nil=>simp[put,fI]
 |cons a l j=>
  rw[put];unfold fI at j|-;split
  ·simp only[List.any_cons,j,Bool.or_assoc]
  ·split
   ·rename_i h;have n:a.code.data.toList=e.code.data.toList:=by
     rw[ByteArray.toList_eq,ByteArray.toList_eq]at h;simpa using h
    simp only[List.any_cons,n];cases decide (e.code.data.toList=c)<;>simp
   ·simp only[List.any_cons];cases decide (e.code.data.toList=c)<;>simp
theorem sorted_put{l:List Elem}(h:jb l)(e:Elem):jb (put l e):=by
 induction l with
 |nil=>simp[put,jb]
 |cons a l C=>
  obtain⟨p,z⟩:=aus.1 h;rw[put];split
  ·rename_i n;refine aus.2 ⟨fun x hx=>?_,C z⟩;rcases aaQ l e x hx with j|⟨y,hy,j⟩
   ·rw[FB,j,<-FB];exact n
   ·rw[FB,<-j,<-FB];exact p y hy
  ·rename_i n;split
   ·rename_i j;have r:e.code=a.code:=by
     apply WA;rw[ByteArray.toList_eq,ByteArray.toList_eq]at j;exact(by simpa using j:a.code.data.toList=e.code.data.toList).symm
    refine aus.2 ⟨fun x hx=>?_,z⟩;rw[FB];show e.code.data.toList<_;rw[r,<-FB];exact p x hx
   ·rename_i j;have B:ij e a=true:=by
     rw[FB]at n|-;rw[ByteArray.toList_eq,ByteArray.toList_eq]at j;have u:¬a.code.data.toList=e.code.data.toList:=(by simpa using j);exact avx fun h=>u (List.le_antisymm (auP.1 h) (auP.1 n))
    refine aus.2 ⟨fun x hx=>?_,h⟩;rcases auf.1 hx with rfl|hx
    ·exact B
    ·exact aaR B (p x hx)
theorem WC(l:List Elem):∀e,jb e->jb (l.foldl put e)/\(∀c,cR (l.foldl put e) c=cR e c+cR l c)/\∀c,fI (l.foldl put e) c=(fI e c||fI l c):=by
 induction l with
 |nil=>intro e h;exact⟨h,fun c=>by simp[cR],fun c=>by simp[fI]⟩
 |cons a l j=>
  intro e h;obtain⟨n,p,r⟩:=j (put e a) (sorted_put h a);refine⟨n,fun c=>?_,fun c=>?_⟩
  ·rw[au1,p,amd];simp only[cR];omega
  ·rw[au1,r,ame];simp only[fI,List.any_cons,Bool.or_assoc]
theorem Jv(l:List Elem):jb (bG l):=(WC l [] List.Pairwise.nil).1
theorem SJ(l:List Elem)(c:List UInt8):cR (bG l) c=cR l c:=by have:=(WC l [] List.Pairwise.nil).2.1 c;simpa[cR,bG]using this
theorem SK(l:List Elem)(c:List UInt8):fI (bG l) c=fI l c:=by have:=(WC l [] List.Pairwise.nil).2.2 c;simpa[fI,bG]using this
theorem amf{l:List Elem}{c:List UInt8}(h:∀x∈l,x.code.data.toList≠c):cR l c=0:=by
 induction l with
 |nil=>rfl
 |cons a l e=>simp only[cR,atO (h a (by simp))];rw[e (fun x j=>h x (by simp[j]))];rfl
theorem mem_sorted{l:List Elem}(h:jb l)(x:Elem):x∈l↔(fI l x.code.data.toList=true/\x.amount=cR l x.code.data.toList):=by
 induction l with
 |nil=>simp[fI]
 |cons a l p=>
  obtain⟨u,z⟩:=aus.1 h;have p:=p z;have j:∀y∈l,y.code.data.toList≠a.code.data.toList:=by intro y hy e;have:=u y hy;rw[FB,e]at this;exact avi _ this
  by_cases n:a.code.data.toList=x.code.data.toList
  ·have B:cR l x.code.data.toList=0:=(by rw[<-n];exact amf j);simp only[fI,List.any_cons,cR,n,decide_true,Bool.true_or,aup,B,true_and,auf];constructor
   ·rintro(rfl|hx)
    ·omega
    ·exact absurd n.symm (j x hx)
   ·intro hx;left;obtain⟨C,D⟩:=x;obtain⟨E,F⟩:=a;have:=WA n;simp only at this hx;subst this;congr;omega
  ·have r:x≠a:=(by rintro rfl;exact n rfl);simp only[fI,List.any_cons,cR,n,decide_false,Bool.false_or,auw,Int.zero_add,auf,r,false_or];exact p
theorem U7:∀{l m:List Elem},jb l->jb m->(∀x,x∈l↔x∈m)->l=m
 |[],[],_,_,_=>rfl
 |[],b::s,_,_,h=>by have:=(h b).2 (by simp);simp at this
 |a::r,[],_,_,h=>by have:=(h a).1 (by simp);simp at this
 |a::r,b::s,B,C,h=>by
  obtain⟨u,D⟩:=aus.1 B;obtain⟨y,E⟩:=aus.1 C;have EB:∀x:Elem,¬ij x x=true:=fun x z=>by rw[aft]at z;cases z
  have n:a=b:=by
   rcases auf.1 ((h a).1 (by simp))with e|ha
   ·exact e
   ·rcases auf.1 ((h b).2 (by simp))with e|hb
    ·exact e.symm
    ·exact absurd (aaR (u b hb) (y a ha)) (EB _)
  subst n;rw[U7 D E (fun p=>⟨fun j=>by
   rcases auf.1 ((h p).1 (by simp[j]))with e|Nh
   ·subst e;exact absurd (u _ j) (EB _)
   ·exact Nh,fun j=>by
   rcases auf.1 ((h p).2 (by simp[j]))with e|Nh
   ·subst e;exact absurd (y _ j) (EB _)
   ·exact Nh⟩)]
theorem amg{l e:List Elem}(h:jb e)(j:∀x:Elem,x∈e↔(fI l x.code.data.toList=true/\x.amount=cR l x.code.data.toList/\x.amount≠0)):e=(bG l).filter nz:=by refine U7 h ((Jv l).filter _) fun x=>?_;rw[j,auR,mem_sorted (Jv l),SK,SJ];simp[nz,and_assoc]
def kG(a b:Int):Int:=if a<b then-1 else if b<a then 1 else 0
def Cf(n:Int):Bool:=decide (-1000000000000<=n/\n<=1000000000000)
theorem amh(a:Int)(w:World):Calls prog 125 #[.int .i64 a] w fun e w'=>e=.returned (.bool false)/\w=w':=by go_enter func125,ntmps125;go_wp2;go_ret;exact⟨by simp,rfl⟩
theorem Ni(a b:Int)(w:World):Calls prog 84 #[.int .i64 a,.int .i64 b] w fun e w'=>e=.returned (.int .i64 (kG a b))/\w=w':=by
 go_enter func84,ntmps84;go_wp2_with(go_at_call 125;refine(amh _ _).mono ?_;rintro e w' ⟨rfl,rfl⟩)
 all_goals go_ret
 all_goals refine⟨?_,rfl⟩
 all_goals(simp[kG, *];try omega)
def FC(a b:Int):Int:=if a≠0 then a else b
theorem aaS(a b:Int)(c g off:Nat)(w:World)(y:w.cell? ⟨g,off,none⟩=some (.int .i64 a))(z:w.cell? ⟨g,off+1,none⟩=some (.int .i64 b)):
  Calls prog 83 #[.slice (some ⟨g,off,none⟩) 2 c] w fun e w'=>e=.returned (.int .i64 (FC a b))/\w=w':=by
 by_cases j:a=0
 ·have n:Hid (FC a b=b):=by simp[Hid,FC,j]
  have p:(a !=0)=false:=by simp[j]
  clear j;by_cases l:b=0
  ·have u:=atM l;have r:(b !=0)=false:=(by simp[l]);clear l;go_enter func83,ntmps83;go_wp2;refine wp_loop_rounds 3 ?_;rw[rounds_succ];go_wp2;rw[rounds_succ];go_wp2;rw[rounds_succ];go_wp2;go_ret;exact⟨by rw[n.out,u.out];rfl,rfl⟩
  ·have r:(b !=0)=true:=(by simp[l]);clear l;go_enter func83,ntmps83;go_wp2;refine wp_loop_rounds 2 ?_;rw[rounds_succ];go_wp2;rw[rounds_succ];go_wp2;go_ret;exact⟨by rw[n.out];rfl,rfl⟩
 ·have n:Hid (FC a b=a):=by simp[Hid,FC,j]
  have p:(a !=0)=true:=by simp[j]
  clear j;go_enter func83,ntmps83;go_wp2;refine wp_loop_rounds 1 ?_;rw[rounds_succ];go_wp2;go_ret;exact⟨by rw[n.out];rfl,rfl⟩
def DC(low l:Int)(j:Bool)(e:Int):Bool:=
 if e=0 then !j else if e=1 then j else if e=2 then false else if e=3 then true else if l≠0 then decide (0<l)else if e=4 then j else if e=5 then !j else low.tmod 2!=0
def gY(num e j:Int):Int:=if num%e=0 then num/e else if DC (num/e) (kG (num%e) (e-num%e)) (decide (0<num)) j then num/e+1 else num/e
def EC(m:Int):Bool:=decide (0<=m/\m<=6)
def Jw(a num j e l:Int):Bool:=decide (-1000000000000<=a/\a<=1000000000000/\0<=num/\num<=1000000/\1<=j/\j<=1000000/\1<=e/\e<=1000000)&&EC l
def pA(a num l e j:Int):Int:=gY (a*num) (l*e) j*e
def mY(a num l e j:Int):Int:=if Jw a num l e j=false then 2 else if Cf (pA a num l e j)=false then 4 else 0
def gW(a num e unit mode:Int):Int:=if mY a num e unit mode=0 then pA a num e unit mode else 0
theorem afu(v n:Int)(e:0<n)(h:0<=v.tmod n):v.tdiv n=v/n/\v.tmod n=v%n:=by
 have p:=Int.tmod_add_mul_tdiv v n;have r:=avy v n;have u:=auY v (show n≠0 by omega);have y:=au2 v e;have z:=Int.tmod_lt_of_pos v e;have j:n*(v.tdiv n-v/n)=v%n-v.tmod n:=by rw[Int.mul_sub];omega
 have l:v.tdiv n-v/n=0:=by
  rcases avp (v.tdiv n-v/n) 0 with h|h|h
  ·have:n*(v.tdiv n-v/n)<=n*(-1):=auF (by omega) (by omega);omega
  ·exact h
  ·have:n*1<=n*(v.tdiv n-v/n):=auF (by omega) (by omega);omega
 rw[l]at j;omega
theorem tdiv_neg(v n:Int)(e:0<n)(h:v.tmod n<0):v.tdiv n-1=v/n/\v.tmod n+n=v%n:=by
 have p:=Int.tmod_add_mul_tdiv v n;have r:=avy v n;have u:=auY v (show n≠0 by omega);have y:=au2 v e;have z:-n<v.tmod n:=by have:=Int.lt_tmod_of_pos v e;omega
 have j:n*(v.tdiv n-v/n-1)=v%n-(v.tmod n+n):=by rw[Int.mul_sub,Int.mul_sub];omega
 have l:v.tdiv n-v/n-1=0:=by
  rcases avp (v.tdiv n-v/n-1) 0 with h|h|h
  ·have:n*(v.tdiv n-v/n-1)<=n*(-1):=auF (by omega) (by omega);omega
  ·exact h
  ·have:n*1<=n*(v.tdiv n-v/n-1):=auF (by omega) (by omega);omega
 rw[l]at j;omega
theorem aaT(v n:Int)(e:0<n)(B:Int)(j:-B<=v)(l:v<=B)(p:0<=B):-B<=v/n/\v/n<=B:=by
 constructor
 ·rw[Int.le_ediv_iff_mul_le e];have:-B*n<=-B*1:=Int.mul_le_mul_of_nonpos_left (by omega) (by omega);omega
 ·apply Int.ediv_le_of_le_mul e;have:B*1<=B*n:=auF (by omega) (by omega);omega
theorem afv(low j:Int)(n:Bool)(l:Int)(w:World):
  Calls prog 174 #[.int .i64 low,.int .i64 j,.bool n,.int .i64 l] w fun e w'=>e=.returned (.bool (DC low j n l))/\w=w':=by
 go_enter func174,ntmps174;go_wp2
 all_goals go_ret
 all_goals refine⟨?_,rfl⟩
 all_goals(simp_all[DC])
theorem FD(m:Int)(w:World):Calls prog 115 #[.int .i64 m] w fun e w'=>e=.returned (.bool (EC m))/\w=w':=by
 by_cases l:0<=m<;>by_cases n:m<=6
 all_goals
  have j:EC m=(decide (0<=m)&&decide (m<=6)):=by simp[EC]
  have p:=atM j;clear j;go_enter func115,ntmps115;go_wp2;go_ret;exact⟨by rw[p.out];simp[l,n],rfl⟩
theorem CB(m:Int)(w:World):Calls prog 179 #[.int .i64 m] w fun e w'=>e=.returned (.bool (EC m))/\w=w':=by
 by_cases l:0<=m<;>by_cases n:m<=6
 all_goals
  have j:EC m=(decide (0<=m)&&decide (m<=6)):=by simp[EC]
  have p:=atM j;clear j;go_enter func179,ntmps179;go_wp2;go_ret;exact⟨by rw[p.out];simp[l,n],rfl⟩
theorem aaU(num j l:Int)(w:World)(K:-1000000000000000000<=num)(L:num<=1000000000000000000)(B:0<j)(S:j<=1000000000000):
  Calls prog 116 #[.int .i64 num,.int .i64 j,.int .i64 l] w fun e w'=>e=.returned (.int .i64 (gY num j l))/\∃q,w'=w.drewN q:=by
 have M:=aaT num j B 1000000000000000000 K L (by omega);obtain⟨E,F⟩:=M;have p:=auY num (show j≠0 by omega);have r:=au2 num B;have T:(j==0)=false:=by simp;omega
 by_cases N:num.tmod j<0
 ·obtain⟨u,y⟩:=tdiv_neg num j B N;have n:gY num j l=if num%j=0 then num/j else if DC (num/j) (kG (num%j) (j-num%j)) (decide (0<num)) l then num/j+1 else num/j:=rfl
  rw[<-u,<-y]at n;have O:-1000000000000000000<=num.tdiv j:=by omega
  have G:num.tdiv j<=1000000000000000001:=by omega
  have U:0<num.tmod j+j:=by have:=Int.lt_tmod_of_pos num B;omega
  have P:num.tmod j<j:=by omega
  have Q:-1000000000000<num.tmod j:=by omega
  have J:((num.tmod j+j)!=0)=true:=by simp;omega
  rw[atO (by omega)]at n;have C:=atM n;clear n u y E F p r;cases hu:DC (num.tdiv j-1) (kG (num.tmod j+j) (j-(num.tmod j+j))) (decide (0<num)) l
  all_goals have D:=atM hu;clear hu;go_enter func116,ntmps116;go_wp2;go_quiet(fail);go_wp2_with fail;refine(Ni _ _ _).mono ?_;rintro e I ⟨rfl,rfl⟩;go_wp2_with fail;refine(afv _ _ _ _ _).mono ?_;rintro e I ⟨rfl,rfl⟩;rw[D.out];go_wp2;go_ret;exact⟨by rw[C.out,D.out];first|rfl|simp,_,rfl⟩
 ·have R:0<=num.tmod j:=by omega
  obtain⟨u,y⟩:=afu num j B R;have n:gY num j l=if num%j=0 then num/j else if DC (num/j) (kG (num%j) (j-num%j)) (decide (0<num)) l then num/j+1 else num/j:=rfl
  rw[<-u,<-y]at n;have O:-1000000000000000000<=num.tdiv j:=by omega
  have G:num.tdiv j<=1000000000000000000:=by omega
  have P:num.tmod j<j:=by omega
  have Q:num.tmod j<1000000000000:=by omega
  by_cases z:num.tmod j=0
  ·rw[atP z]at n;have C:=atM n;have J:(num.tmod j !=0)=false:=(by simp[z]);clear n u y E F p r z;go_enter func116,ntmps116;go_wp2;go_quiet(fail);go_wp2;go_ret;exact⟨by rw[C.out];first|rfl|simp,_,rfl⟩
  ·rw[atO z]at n;have C:=atM n;have J:(num.tmod j !=0)=true:=(by simp[z]);clear n u y E F p r z;cases hu:DC (num.tdiv j) (kG (num.tmod j) (j-num.tmod j)) (decide (0<num)) l
   all_goals have D:=atM hu;clear hu;go_enter func116,ntmps116;go_wp2;go_quiet(fail);go_wp2_with fail;refine(Ni _ _ _).mono ?_;rintro e I ⟨rfl,rfl⟩;go_wp2_with fail;refine(afv _ _ _ _ _).mono ?_;rintro e I ⟨rfl,rfl⟩;rw[D.out];go_wp2;go_ret;exact⟨by rw[C.out,D.out];first|rfl|simp,_,rfl⟩
