/- Conditions: as stated. -/
import Derived.Deep.CutRange
import Derived.Test.YtlhkojcmcmkmaaaGreatKNetM
set_option maxRecDepth 100000
set_option maxHeartbeats 2000000
namespace Go.Proofs.YtlhkojcmcmkmaaaGreat
open Go.Proofs.Tryz
open Go.RowKit
theorem CU(b M:Nat)(W:World)(l:List Int)(j:Array Value)(n c:Nat)(p:j=(l.flatMap encI).toArray)(z:n=l.length)(B:M<=1000000)(hd:aX W b M)(C:l≠[])(D:l.length<=1000):
  Calls prog 66 #[.pointer (some ⟨b,0,none⟩),.slice (some ⟨W.heap.size,0,none⟩) n c] (W.alloc (.cells j 3)) fun e w'=>∃r:Int,e=.returned (.int .i64 r)/\r∈l/\aX w' b (M+1)/\W.grownBy w' (some b):=by
 subst z;have E:=hd.lt;refine(CV b M _ (some ⟨W.heap.size,0,none⟩) l c B (hd.alloc _) C D ?_ ?_).mono ?_
 ·exact(aj.new kq W l j 3 p).more (by simp)
 ·intro a u;injection u with u;subst u;show W.heap.size≠b;omega
 ·rintro e I ⟨r,rfl,F,G,y⟩;exact⟨r,rfl,F,G,ck (fI (ft _ _) _) y⟩
def KC:List ByteArray:=[⟨#[99,108,117,98]⟩,⟨#[108,111,97,110]⟩,⟨#[112,108,97,110]⟩,⟨#[117,110,105,111,110]⟩]
def Z8:Array Value:=#[.string ⟨#[99,108,117,98]⟩,.string ⟨#[108,111,97,110]⟩,.string ⟨#[112,108,97,110]⟩,.string ⟨#[117,110,105,111,110]⟩]
def Z9(k:Nat):ByteArray:=KC.getD k ⟨#[]⟩
theorem ak7(k:Nat)(h:k<4):Z8[k]?=some (.string (Z9 k)):=by
 match k,h with
 |0,_=>rfl
 |1,_=>rfl
 |2,_=>rfl
 |3,_=>rfl
theorem aeD(k:Nat)(h:k<4):KC.take (k+1)=KC.take k++[Z9 k]:=by
 match k,h with
 |0,_=>rfl
 |1,_=>rfl
 |2,_=>rfl
 |3,_=>rfl
theorem ak8:∀c∈KC,bI c=true:=by decide+kernel
theorem ak9:KC.Pairwise (fun a b=>Op.bytesLess a.toList b.toList=true):=by decide+kernel
structure GenC{α:Type}(code:α->ByteArray)(ok:α->Prop)(k:Nat)(xs:List α):Prop where
 sub:(xs.map code).Sublist (KC.take k)
 ok:∀x∈xs,ok x
section
variable {α:Type}{code:α->ByteArray}{ok:α->Prop}{k:Nat}{xs:List α}
theorem GenC.cK:GenC code ok 0 []:=⟨by simp,by simp⟩
theorem GenC.skip(h:GenC code ok k xs)(e:k<4):GenC code ok (k+1) xs:=
 ⟨by rw[aeD k e];exact h.sub.trans (List.sublist_append_left _ _),h.ok⟩
theorem GenC.more(h:GenC code ok k xs)(e:k<4)(x:α)(j:code x=Z9 k)(l:ok x):GenC code ok (k+1) (xs++[x]):=by
 refine⟨?_,fun y hy=>?_⟩
 ·rw[aeD k e,aso];exact h.sub.append (by simp[j])
 ·rcases arE.1 hy with h1|h1
  ·exact h.ok y h1
  ·simp at h1;subst h1;exact l
theorem GenC.len(h:GenC code ok k xs):xs.length<=4:=by have:=h.sub.length_le;simp[KC]at this;omega
theorem GenC.mem(h:GenC code ok k xs){x:α}(e:x∈xs):code x∈KC:=arD (h.sub.subset (List.mem_map_of_mem e))
theorem GenC.lh(h:GenC code ok k xs):xs.Pairwise (fun a b=>Op.bytesLess (code a).toList (code b).toList=true):=by have e:=ak9.sublist (h.sub.trans (List.take_sublist _ _));exact asI.1 e
end
def ala(x:Elem):Prop:=0<=x.amount/\x.amount<600000
abbrev GenR:=GenC Elem.code ala
theorem GenR.valid{k:Nat}{xs:List Elem}(h:GenR k xs):eJ xs=true:=by refine pz.2 ⟨by have:=h.len;omega,fun x e=>?_,h.lh⟩;obtain⟨a,b⟩:=h.ok x e;exact⟨ak8 _ (h.mem e),by omega,by omega⟩
theorem alb(b M:Nat)(w:World)(hM:M<=800000)(hd:aX w b M):
  Calls prog 72 #[.pointer (some ⟨b,0,none⟩)] w fun e w'=>∃v xs,e=.returned v/\GenR 4 xs/\Own aN 2 69 w' w.heap.size v xs/\aX w' b (M+16)/\w.grownBy w' (some b):=by
 have S:=hd.lt;go_enter func72,ntmps72;go_wp2_with fail;rw[show Obj.cells #[.string ⟨#[99,108,117,98]⟩,.string ⟨#[108,111,97,110]⟩,.string ⟨#[112,108,97,110]⟩,.string ⟨#[117,110,105,111,110]⟩] 9=Obj.cells Z8 9 from rfl]
 go_loopw [3,8] (fun v i wr=>∃(k:Nat) (xs:List Elem),k<=4/\i=.int .i64 k/\GenR k xs/\Own aN 2 69 wr (w.heap.size+1) v xs/\aX wr b (M+4*k)/\ah wr w.heap.size 9 Z8/\w.grownBy wr (some b)) (fun _ i _=>4-(intOf i).toNat)
 case atStart=>exact⟨0,[],by omega,rfl,GenC.cK,Own.cK _ _,hd.alloc _,ah.new _ _ _,fI (ft _ _) _⟩
 case round=>
  obtain⟨k,xs,hk,rfl,y,l,B,j,z⟩:=hrel;by_cases C:k<4
  ·have T:=(j.cell k).trans (ak7 k C);go_wp2_with fail;refine(jv b (M+4*k) _ _ (by omega) (by omega) (by omega) B).mono ?_;rintro e w1 ⟨K,rfl,U,V,D,n⟩;have X:=j.lt;by_cases E:K=0
   ·subst E;go_wp2_with fail;refine(Mt b (M+4*k+1) _ (by omega) D).mono ?_;rintro e Y ⟨Z,rfl,Rj,ab,L,r⟩;go_wp2_with fail;refine(CU b (M+4*k+1+2) Y [0,50,100,19999,20000,Z] _ _ _ rfl rfl (by omega) L (by simp) (by simp)).mono ?_;rintro e w7 ⟨N,rfl,O,gQ,P⟩;have u:=ck (ck n r) P;have Q:=l.kept u (by intro g e;injection e;omega);have F:=j.grown u (by intro e;injection e;omega);have zn:=ck z u;have RG:=u.size;have R:=y.len;have Ri:0<=N/\N<600000:=(by simp at O;omega);clear l j z n r P B D L T O u;go_wp2_with(at_builtin;(refine my _ _ 51 ⟨_,_⟩ _ 24 _ kF underlying51 Q dt (by omega) rfl (kn _) (by omega) (by omega) (by omega) (by rfl) (by rfl) (by rfl) (by rfl) (by simp) (by rfl) ?_);intro v2 w8 cv G);have I:∀g,Value.ownBlock _=some g->w.heap.size+1<=g:=fun g e=>(Q.cg e).1;go_roundw
    case rel=>refine⟨k+1,_,by omega,by go_num,?_,cv,(gQ.grown G (fun g e=>by have:=I g e;omega)).mono (by omega),F.grown G (fun e=>by have:=I _ e.symm;omega),DW zn G (fun g e=>.inl (by have:=I g e;omega))⟩;exact y.more C _ rfl Ri
    case measure=>simp[intOf];omega
   ·have Js:(K==0)=false:=(by simpa using E);have p:=l.kept n (by intro g e;injection e;omega);have J:=j.grown n (by intro e;injection e;omega);clear E;go_wp2_with fail;go_roundw
    case rel=>exact⟨k+1,xs,by omega,by go_num,y.skip C,p,D.mono (by omega),J,ck z n⟩
    case measure=>simp[intOf];omega
  ·go_wp2;go_ret;obtain rfl:k=4:=by omega
   exact⟨_,xs,rfl,y,l.weaken (by omega),B,z⟩
theorem alc:(Tryz.prog.info? 3).map (fun i=>(i.zero,i.size,i.bytes))=some (some (.int .i64 0),1,8):=by kernel_rfl
theorem OX(x:Int):∀u∈encI x,u.oneCell'=true:=by intro u hu;simp[encI]at hu;subst hu;rfl
theorem I1(w:World)(l:List Int)(e:Array Value)(h:e=(l.flatMap encI).toArray):aj encI 1 (w.alloc (.cells e 3)) (w.alloc (.cells e 3)).heap.size (some ⟨w.heap.size,0,none⟩) l:=
 (aj.new kq w l e 3 h).more (by simp)
theorem OQ(b M:Nat)(w:World)(G:M<=900000)(hd:aX w b M):
  Calls prog 120 #[.pointer (some ⟨b,0,none⟩)] w fun e w'=>∃r:Int,e=.returned (.int .i64 r)/\0<=r/\r<=1000000/\aX w' b (M+2)/\w.grownBy w' (some b):=by
 have y:=hd.lt;go_enter func120,ntmps120;go_wp2_with fail;refine(jv b M _ _ (by omega) (by omega) (by omega) hd).mono ?_;rintro e z ⟨B,rfl,C,D,u,j⟩;have I:=u.lt;go_wp2_with fail;refine(CV b (M+1) _ _ [0,1,75000,93000,200000,333333,420000,500000,1000000,B] _ (by omega) (u.alloc _) (by simp) (by simp) (I1 z _ _ rfl) (by intro a l;injection l with l;subst l;simp;omega)).mono ?_;rintro e J ⟨n,rfl,E,F,p⟩;go_wp2;go_ret;have:0<=n/\n<=1000000:=by simp at E;omega
 exact⟨n,rfl,this.1,this.2,F,ck (fI j _) p⟩
theorem ald(b M n:Nat)(w:World)(hM:M<=500000)(hn:n<=1000)(hd:aX w b M):
  Calls prog 71 #[.pointer (some ⟨b,0,none⟩),.int .i64 n] w fun e w'=>∃v xs,e=.returned v/\xs.length=n/\(∀x∈xs,0<=x/\x<=1000000)/\Own encI 1 3 w' w.heap.size v xs/\aX w' b (M+5*n)/\w.grownBy w' (some b):=by
 have R:=hd.lt;go_enter func71,ntmps71;go_wp2
 go_loopw [5,6] (fun v i wr=>∃(k:Nat) (xs:List Int),k<=n/\i=.int .i64 k/\xs.length=k/\Hid (∀x∈xs,0<=x/\x<=1000000)/\Own encI 1 3 wr w.heap.size v xs/\aX wr b (M+5*k)/\w.grownBy wr (some b)) (fun _ i _=>n-(intOf i).toNat)
 case atStart=>exact⟨0,[],by omega,rfl,rfl,(fun x hx=>by cases hx),Own.cK _ _,hd,ft _ _⟩
 case round=>
  obtain⟨k,xs,hk,rfl,p,r,j,E,C⟩:=hrel;have l:=aq6 p;clear p;by_cases kZ:k<n
  ·go_wp2_with fail;refine(Mt b (M+5*k) _ (by omega) E).mono ?_;rintro e w1 ⟨S,rfl,T,U,K,y⟩;go_wp2_with fail;refine(Mt b (M+5*k+2) _ (by omega) K).mono ?_;rintro e V ⟨X,rfl,Y,Z,F,z⟩;have fZ:=F.lt;go_wp2_with fail;refine(CV b (M+5*k+2+2) _ _ [S,X,0,500000,1000000] _ (by omega) (F.alloc _) (by simp) (by simp) (I1 V _ _ rfl) (by intro a G;injection G with G;subst G;simp;omega)).mono ?_;rintro e w3 ⟨r3,rfl,L,ig,B⟩;have h3:0<=r3/\r3<=1000000:=(by simp at L;omega);have D:wr.grownBy w3 (some b):=ck (fI (ck y z) _) B;have N:=j.kept D (by intro g e;injection e;omega);have I:w.heap.size<=w3.heap.size:=arq C.size D.size;have O:=fun q hq=>(N.cg (g:=q) hq).1;have Fi:xs.length<4294967296:=(by have:=l.out;omega);have zn:=ck C D;clear K F y z B E j L D C;go_wp2_with(at_builtin;(refine my _ _ 34 r3 _ 8 _ alc underlying34 N kq (by omega) rfl (OX _) Fi (by omega) I (by rfl) (by rfl) (by rfl) (by rfl) (by simp) (by rfl) ?_);intro v2 J cE P);go_roundw
   case rel=>
    have Q:∃(k':Nat) (u:List Int),k'<=n/\Value.int .i64 ((k:Int)+1)=.int .i64 k'/\u.length=k'/\Hid (∀x∈u,0<=x/\x<=1000000)/\Own encI 1 3 J w.heap.size v2 u/\aX J b (M+5*k')/\w.grownBy J (some b):=by
     refine⟨k+1,xs++[r3],by omega,by go_num,by have:=l.out;simp;omega,fun x hx=>?_,cE,(ig.grown P (fun q e=>by have:=O q e;omega)).mono (by omega),DW zn P (fun q e=>.inl (O q e))⟩;rcases arE.1 hx with hx|hx
     ·exact r.out x hx
     ·simp at hx;subst hx;exact h3
    first|exact Q|((repeat apply Exists.intro);exact⟨Q,rfl⟩)
   case measure=>simp[intOf];omega
  ·go_wp2;go_ret;exact⟨_,xs,rfl,by have:=l.out;omega,r.out,j,E.mono (by omega),C⟩
theorem aX.set{w:World}{b M:Nat}(h:aX w b M){g:Nat}(j:b<g)(i:Nat)(u:Value):aX (w.setCell ⟨g,i,none⟩ u) b M:=
 h.grown (bk (g:=g) (p:=⟨g,i,none⟩) (ft _ _) (.inl rfl) u) (fun q e=>by
  have l:g=q:=by injection e
  omega)
structure aac(w:World)(base b:Nat)(v:Value)(k:Nat)(es:List cM):Prop where
 len:∀e∈es,e.l.length=k
 bas:∀e∈es,0<=e.base/\e.base<=1000000
 ear:∀e∈es,∀x∈e.l,0<=x/\x<=1000000
 sl:∀e∈es,aj encI 1 w w.heap.size e.A e.l
 lt:∀e∈es,∀a,e.A=some a->a.block<w.heap.size
 fr:∀e∈es,∀a,e.A=some a->base<=a.block/\a.block≠b/\v.ownBlock≠some a.block
theorem aj.G9{α:Type}{l:α->List Value}{k:Nat}{w w':World}{A:Option Addr}{xs:List α}{row:Option Nat}(h:aj l k w w.heap.size A xs)(r:w.grownBy w' row)(hr:∀a,A=some a->row≠some a.block):aj l k w' w'.heap.size A xs:=fun p=>by obtain⟨q,n,e,y,z⟩:=h p;have B:=hr _ e;exact⟨q,n,e,arY y r.size,fun i x hi j u C=>(asj (a:=⟨q,n+i*k+j,none⟩) (r.block q y (fun e=>B e.symm))).trans (z i x hi j u C)⟩
theorem aac.grown{w w':World}{base b:Nat}{v:Value}{k:Nat}{p:List cM}(h:aac w base b v k p)(r:w.grownBy w' (some b)):aac w' base b v k p:=
 ⟨h.len,h.bas,h.ear,fun e j=>(h.sl e j).G9 r (fun a l n=>(h.fr e j a l).2.1 (by injection n with n;exact n.symm)),fun e j a l=>arY (h.lt e j a l) r.size,h.fr⟩
theorem aez(b M:Nat)(w:World)(z:M<=900000)(hd:aX w b M):
  Calls prog 118 #[.pointer (some ⟨b,0,none⟩)] w fun e w'=>∃r:Int,e=.returned (.int .i64 r)/\0<=r/\r<=6/\aX w' b (M+1)/\w.grownBy w' (some b):=by
 have n:=hd.lt;go_enter func118,ntmps118;go_wp2_with fail;refine(jv b M _ _ (by omega) (by omega) (by omega) hd).mono ?_;rintro e B ⟨p,rfl,j,u,y,l⟩;go_wp2;go_ret;exact⟨p,rfl,j,by omega,y,l⟩
