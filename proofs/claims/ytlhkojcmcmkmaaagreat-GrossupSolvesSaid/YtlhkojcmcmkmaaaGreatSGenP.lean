/- Conditions: as stated. -/
import Derived.Deep.CutRange
import Derived.Test.YtlhkojcmcmkmaaaGreatSNetM
set_option maxRecDepth 100000
set_option maxHeartbeats 2000000
namespace Go.Proofs.YtlhkojcmcmkmaaaGreat
open Go.Proofs.Tryz
open Go.RowKit
theorem BJ(b M:Nat)(W:World)(l:List Int)(cs:Array Value)(n c:Nat)(j:cs=(l.flatMap encI).toArray)(y:n=l.length)(z:M<=1000000)(hd:aX W b M)(B:l≠[])(C:l.length<=1000):
  Calls prog 66 #[.pointer (some ⟨b,0,none⟩),.slice (some ⟨W.heap.size,0,none⟩) n c] (W.alloc (.cells cs 3)) fun e w'=>∃r:Int,e=.returned (.int .i64 r)/\r∈l/\aX w' b (M+1)/\W.grownBy w' (some b):=by
 subst y;have D:=hd.lt;refine(Dw b M _ (some ⟨W.heap.size,0,none⟩) l c z (hd.alloc _) B C ?_ ?_).mono ?_
 ·exact(aj.new lF W l cs 3 j).more (by simp)
 ·intro a p;injection p with p;subst p;show W.heap.size≠b;omega
 ·rintro e G ⟨r,rfl,E,F,u⟩;exact⟨r,rfl,E,F,ck (fJ (fe _ _) _) u⟩
def K2:List ByteArray:=[⟨#[99,108,117,98]⟩,⟨#[108,111,97,110]⟩,⟨#[112,108,97,110]⟩,⟨#[117,110,105,111,110]⟩]
def aaw:Array Value:=#[.string ⟨#[99,108,117,98]⟩,.string ⟨#[108,111,97,110]⟩,.string ⟨#[112,108,97,110]⟩,.string ⟨#[117,110,105,111,110]⟩]
def aax(k:Nat):ByteArray:=K2.getD k ⟨#[]⟩
theorem alx(k:Nat)(h:k<4):aaw[k]?=some (.string (aax k)):=by
 match k,h with
 |0,_=>rfl
 |1,_=>rfl
 |2,_=>rfl
 |3,_=>rfl
theorem aeY(k:Nat)(h:k<4):K2.take (k+1)=K2.take k++[aax k]:=by
 match k,h with
 |0,_=>rfl
 |1,_=>rfl
 |2,_=>rfl
 |3,_=>rfl
theorem aly:∀c∈K2,bK c=true:=by decide+kernel
theorem alz:K2.Pairwise (fun a b=>Op.bytesLess a.toList b.toList=true):=by decide+kernel
structure GenC{α:Type}(code:α->ByteArray)(ok:α->Prop)(k:Nat)(xs:List α):Prop where
 sub:(xs.map code).Sublist (K2.take k)
 ok:∀x∈xs,ok x
section
variable {α:Type}{code:α->ByteArray}{ok:α->Prop}{k:Nat}{xs:List α}
theorem GenC.cL:GenC code ok 0 []:=⟨by simp,by simp⟩
theorem GenC.skip(h:GenC code ok k xs)(e:k<4):GenC code ok (k+1) xs:=
 ⟨by rw[aeY k e];exact h.sub.trans (List.sublist_append_left _ _),h.ok⟩
theorem GenC.more(h:GenC code ok k xs)(e:k<4)(x:α)(j:code x=aax k)(l:ok x):GenC code ok (k+1) (xs++[x]):=by
 refine⟨?_,fun y hy=>?_⟩
 ·rw[aeY k e,asW];exact h.sub.append (by simp[j])
 ·rcases asf.1 hy with h1|h1
  ·exact h.ok y h1
  ·simp at h1;subst h1;exact l
theorem GenC.len(h:GenC code ok k xs):xs.length<=4:=by have:=h.sub.length_le;simp[K2]at this;omega
theorem GenC.mem(h:GenC code ok k xs){x:α}(e:x∈xs):code x∈K2:=ar6 (h.sub.subset (List.mem_map_of_mem e))
theorem GenC.lK(h:GenC code ok k xs):xs.Pairwise (fun a b=>Op.bytesLess (code a).toList (code b).toList=true):=by have e:=alz.sublist (h.sub.trans (List.take_sublist _ _));exact ath.1 e
end
def alA(x:Elem):Prop:=0<=x.amount/\x.amount<600000
abbrev GenR:=GenC Elem.code alA
theorem GenR.valid{k:Nat}{xs:List Elem}(h:GenR k xs):eP xs=true:=by refine pZ.2 ⟨by have:=h.len;omega,fun x e=>?_,h.lK⟩;obtain⟨a,b⟩:=h.ok x e;exact⟨aly _ (h.mem e),by omega,by omega⟩
theorem alB(b M:Nat)(w:World)(hM:M<=800000)(hd:aX w b M):
  Calls prog 72 #[.pointer (some ⟨b,0,none⟩)] w fun e w'=>∃v xs,e=.returned v/\GenR 4 xs/\Own aQ 2 69 w' w.heap.size v xs/\aX w' b (M+16)/\w.grownBy w' (some b):=by
 have S:=hd.lt;go_enter func72,ntmps72;go_wp2_with fail;rw[show Obj.cells #[.string ⟨#[99,108,117,98]⟩,.string ⟨#[108,111,97,110]⟩,.string ⟨#[112,108,97,110]⟩,.string ⟨#[117,110,105,111,110]⟩] 9=Obj.cells aaw 9 from rfl]
 go_loopw [3,8] (fun v i wr=>∃(k:Nat) (xs:List Elem),k<=4/\i=.int .i64 k/\GenR k xs/\Own aQ 2 69 wr (w.heap.size+1) v xs/\aX wr b (M+4*k)/\ah wr w.heap.size 9 aaw/\w.grownBy wr (some b)) (fun _ i _=>4-(intOf i).toNat)
 case atStart=>exact⟨0,[],by omega,rfl,GenC.cL,Own.cL _ _,hd.alloc _,ah.new _ _ _,fJ (fe _ _) _⟩
 case round=>
  obtain⟨k,xs,hk,rfl,y,l,B,j,z⟩:=hrel;by_cases C:k<4
  ·have T:=(j.cell k).trans (alx k C);go_wp2_with fail;refine(kg b (M+4*k) _ _ (by omega) (by omega) (by omega) B).mono ?_;rintro e w1 ⟨K,rfl,U,V,D,n⟩;have X:=j.lt;by_cases E:K=0
   ·subst E;go_wp2_with fail;refine(K3 b (M+4*k+1) _ (by omega) D).mono ?_;rintro e Y ⟨Z,rfl,R8,ab,L,r⟩;go_wp2_with fail;refine(BJ b (M+4*k+1+2) Y [0,50,100,19999,20000,Z] _ _ _ rfl rfl (by omega) L (by simp) (by simp)).mono ?_;rintro e w7 ⟨N,rfl,O,iU,P⟩;have u:=ck (ck n r) P;have Q:=l.kept u (by intro g e;injection e;omega);have F:=j.grown u (by intro e;injection e;omega);have oM:=ck z u;have Wa:=u.size;have R:=y.len;have R7:0<=N/\N<600000:=(by simp at O;omega);clear l j z n r P B D L T O u;go_wp2_with(at_builtin;(refine mQ _ _ 51 ⟨_,_⟩ _ 24 _ ll underlying51 Q dB (by omega) rfl (kO _) (by omega) (by omega) (by omega) (by rfl) (by rfl) (by rfl) (by rfl) (by simp) (by rfl) ?_);intro v2 w8 cx G);have I:∀g,Value.ownBlock _=some g->w.heap.size+1<=g:=fun g e=>(Q.cm e).1;go_roundw
    case rel=>refine⟨k+1,_,by omega,by go_num,?_,cx,(iU.grown G (fun g e=>by have:=I g e;omega)).mono (by omega),F.grown G (fun e=>by have:=I _ e.symm;omega),Cf oM G (fun g e=>.inl (by have:=I g e;omega))⟩;exact y.more C _ rfl R7
    case measure=>simp[intOf];omega
   ·have JO:(K==0)=false:=(by simpa using E);have p:=l.kept n (by intro g e;injection e;omega);have J:=j.grown n (by intro e;injection e;omega);clear E;go_wp2_with fail;go_roundw
    case rel=>exact⟨k+1,xs,by omega,by go_num,y.skip C,p,D.mono (by omega),J,ck z n⟩
    case measure=>simp[intOf];omega
  ·go_wp2;go_ret;obtain rfl:k=4:=by omega
   exact⟨_,xs,rfl,y,l.weaken (by omega),B,z⟩
theorem alC:(Tryz.prog.info? 3).map (fun i=>(i.zero,i.size,i.bytes))=some (some (.int .i64 0),1,8):=by kernel_rfl
theorem Pq(x:Int):∀u∈encI x,u.oneCell'=true:=by intro u hu;simp[encI]at hu;subst hu;rfl
theorem FC(w:World)(l:List Int)(cs:Array Value)(h:cs=(l.flatMap encI).toArray):aj encI 1 (w.alloc (.cells cs 3)) (w.alloc (.cells cs 3)).heap.size (some ⟨w.heap.size,0,none⟩) l:=
 (aj.new lF w l cs 3 h).more (by simp)
theorem Pk(b M:Nat)(w:World)(G:M<=900000)(hd:aX w b M):
  Calls prog 120 #[.pointer (some ⟨b,0,none⟩)] w fun e w'=>∃r:Int,e=.returned (.int .i64 r)/\0<=r/\r<=1000000/\aX w' b (M+2)/\w.grownBy w' (some b):=by
 have y:=hd.lt;go_enter func120,ntmps120;go_wp2_with fail;refine(kg b M _ _ (by omega) (by omega) (by omega) hd).mono ?_;rintro e z ⟨B,rfl,C,D,u,j⟩;have I:=u.lt;go_wp2_with fail;refine(Dw b (M+1) _ _ [0,1,75000,93000,200000,333333,420000,500000,1000000,B] _ (by omega) (u.alloc _) (by simp) (by simp) (FC z _ _ rfl) (by intro a l;injection l with l;subst l;simp;omega)).mono ?_;rintro e J ⟨n,rfl,E,F,p⟩;go_wp2;go_ret;have:0<=n/\n<=1000000:=by simp at E;omega
 exact⟨n,rfl,this.1,this.2,F,ck (fJ j _) p⟩
theorem alD(b M n:Nat)(w:World)(hM:M<=500000)(hn:n<=1000)(hd:aX w b M):
  Calls prog 71 #[.pointer (some ⟨b,0,none⟩),.int .i64 n] w fun e w'=>∃v xs,e=.returned v/\xs.length=n/\(∀x∈xs,0<=x/\x<=1000000)/\Own encI 1 3 w' w.heap.size v xs/\aX w' b (M+5*n)/\w.grownBy w' (some b):=by
 have R:=hd.lt;go_enter func71,ntmps71;go_wp2
 go_loopw [5,6] (fun v i wr=>∃(k:Nat) (xs:List Int),k<=n/\i=.int .i64 k/\xs.length=k/\Hid (∀x∈xs,0<=x/\x<=1000000)/\Own encI 1 3 wr w.heap.size v xs/\aX wr b (M+5*k)/\w.grownBy wr (some b)) (fun _ i _=>n-(intOf i).toNat)
 case atStart=>exact⟨0,[],by omega,rfl,rfl,(fun x hx=>by cases hx),Own.cL _ _,hd,fe _ _⟩
 case round=>
  obtain⟨k,xs,hk,rfl,p,r,j,E,C⟩:=hrel;have l:=arH p;clear p;by_cases lG:k<n
  ·go_wp2_with fail;refine(K3 b (M+5*k) _ (by omega) E).mono ?_;rintro e w1 ⟨S,rfl,T,U,K,y⟩;go_wp2_with fail;refine(K3 b (M+5*k+2) _ (by omega) K).mono ?_;rintro e V ⟨X,rfl,Y,Z,F,z⟩;have gw:=F.lt;go_wp2_with fail;refine(Dw b (M+5*k+2+2) _ _ [S,X,0,500000,1000000] _ (by omega) (F.alloc _) (by simp) (by simp) (FC V _ _ rfl) (by intro a G;injection G with G;subst G;simp;omega)).mono ?_;rintro e w3 ⟨r3,rfl,L,iF,B⟩;have h3:0<=r3/\r3<=1000000:=(by simp at L;omega);have D:wr.grownBy w3 (some b):=ck (fJ (ck y z) _) B;have N:=j.kept D (by intro g e;injection e;omega);have I:w.heap.size<=w3.heap.size:=ar0 C.size D.size;have O:=fun q hq=>(N.cm (g:=q) hq).1;have FW:xs.length<4294967296:=(by have:=l.out;omega);have oM:=ck C D;clear K F y z B E j L D C;go_wp2_with(at_builtin;(refine mQ _ _ 34 r3 _ 8 _ alC underlying34 N lF (by omega) rfl (Pq _) FW (by omega) I (by rfl) (by rfl) (by rfl) (by rfl) (by simp) (by rfl) ?_);intro v2 J cI P);go_roundw
   case rel=>
    have Q:∃(k':Nat) (u:List Int),k'<=n/\Value.int .i64 ((k:Int)+1)=.int .i64 k'/\u.length=k'/\Hid (∀x∈u,0<=x/\x<=1000000)/\Own encI 1 3 J w.heap.size v2 u/\aX J b (M+5*k')/\w.grownBy J (some b):=by
     refine⟨k+1,xs++[r3],by omega,by go_num,by have:=l.out;simp;omega,fun x hx=>?_,cI,(iF.grown P (fun q e=>by have:=O q e;omega)).mono (by omega),Cf oM P (fun q e=>.inl (O q e))⟩;rcases asf.1 hx with hx|hx
     ·exact r.out x hx
     ·simp at hx;subst hx;exact h3
    first|exact Q|((repeat apply Exists.intro);exact⟨Q,rfl⟩)
   case measure=>simp[intOf];omega
  ·go_wp2;go_ret;exact⟨_,xs,rfl,by have:=l.out;omega,r.out,j,E.mono (by omega),C⟩
theorem aX.set{w:World}{b M:Nat}(h:aX w b M){g:Nat}(j:b<g)(i:Nat)(u:Value):aX (w.setCell ⟨g,i,none⟩ u) b M:=
 h.grown (bm (g:=g) (p:=⟨g,i,none⟩) (fe _ _) (.inl rfl) u) (fun q e=>by
  have l:g=q:=by injection e
  omega)
theorem aj.Jw{α:Type}{l:α->List Value}{k:Nat}{w w':World}{A:Option Addr}{xs:List α}{row:Option Nat}(h:aj l k w w.heap.size A xs)(r:w.grownBy w' row)(hr:∀a,A=some a->row≠some a.block):aj l k w' w'.heap.size A xs:=fun p=>by obtain⟨q,n,e,y,z⟩:=h p;have B:=hr _ e;exact⟨q,n,e,asy y r.size,fun i x hi j u C=>(asT (a:=⟨q,n+i*k+j,none⟩) (r.block q y (fun e=>B e.symm))).trans (z i x hi j u C)⟩
theorem aeU(b M:Nat)(w:World)(z:M<=900000)(hd:aX w b M):
  Calls prog 118 #[.pointer (some ⟨b,0,none⟩)] w fun e w'=>∃r:Int,e=.returned (.int .i64 r)/\0<=r/\r<=6/\aX w' b (M+1)/\w.grownBy w' (some b):=by
 have n:=hd.lt;go_enter func118,ntmps118;go_wp2_with fail;refine(kg b M _ _ (by omega) (by omega) (by omega) hd).mono ?_;rintro e B ⟨p,rfl,j,u,y,l⟩;go_wp2;go_ret;exact⟨p,rfl,j,by omega,y,l⟩
