/- Conditions: as stated. -/
import Derived.Deep.CutRange
import Derived.Test.YtlhkojcmcmkmaaaGreatCNetM
set_option maxRecDepth 100000
set_option maxHeartbeats 2000000
namespace Go.Proofs.YtlhkojcmcmkmaaaGreat
open Go.Proofs.Tryz
open Go.RowKit
theorem pB(b M:Nat)(W:World)(l:List Int)(j:Array Value)(n c:Nat)(p:j=(l.flatMap encI).toArray)(z:n=l.length)(B:M<=1000000)(hd:aW W b M)(C:l≠[])(D:l.length<=1000):
  Calls prog 66 #[.pointer (some ⟨b,0,none⟩),.slice (some ⟨W.heap.size,0,none⟩) n c] (W.alloc (.cells j 3)) fun e w'=>∃r:Int,e=.returned (.int .i64 r)/\r∈l/\aW w' b (M+1)/\W.grownBy w' (some b):=by
 subst z;have E:=hd.lt;refine(FH b M _ (some ⟨W.heap.size,0,none⟩) l c B (hd.alloc _) C D ?_ ?_).mono ?_
 ·exact(ai.new iX W l j 3 p).more (by simp)
 ·intro a u;injection u with u;subst u;show W.heap.size≠b;omega
 ·rintro e I ⟨r,rfl,F,G,y⟩;exact⟨r,rfl,F,G,bL (eG (dX _ _) _) y⟩
def Lm:List ByteArray:=[⟨#[99,108,117,98]⟩,⟨#[108,111,97,110]⟩,⟨#[112,108,97,110]⟩,⟨#[117,110,105,111,110]⟩]
def Tl:Array Value:=#[.string ⟨#[99,108,117,98]⟩,.string ⟨#[108,111,97,110]⟩,.string ⟨#[112,108,97,110]⟩,.string ⟨#[117,110,105,111,110]⟩]
def abb(k:Nat):ByteArray:=Lm.getD k ⟨#[]⟩
theorem afS(k:Nat)(h:k<4):Tl[k]?=some (.string (abb k)):=by
 match k,h with
 |0,_=>rfl
 |1,_=>rfl
 |2,_=>rfl
 |3,_=>rfl
theorem afT(k:Nat)(h:k<4):Lm.take (k+1)=Lm.take k++[abb k]:=by
 match k,h with
 |0,_=>rfl
 |1,_=>rfl
 |2,_=>rfl
 |3,_=>rfl
theorem afU:∀c∈Lm,bI c=true:=by decide+kernel
theorem amH:Lm.Pairwise (fun a b=>Op.bytesLess a.toList b.toList=true):=by decide+kernel
structure GenC{α:Type}(code:α->ByteArray)(ok:α->Prop)(k:Nat)(xs:List α):Prop where
 sub:(xs.map code).Sublist (Lm.take k)
 ok:∀x∈xs,ok x
section
variable {α:Type}{code:α->ByteArray}{ok:α->Prop}{k:Nat}{xs:List α}
theorem GenC.cC:GenC code ok 0 []:=⟨by simp,by simp⟩
theorem GenC.skip(h:GenC code ok k xs)(e:k<4):GenC code ok (k+1) xs:=
 ⟨by rw[afT k e];exact h.sub.trans (List.sublist_append_left _ _),h.ok⟩
theorem GenC.more(h:GenC code ok k xs)(e:k<4)(x:α)(j:code x=abb k)(l:ok x):GenC code ok (k+1) (xs++[x]):=by
 refine⟨?_,fun y hy=>?_⟩
 ·rw[afT k e,auK];exact h.sub.append (by simp[j])
 ·rcases aul.1 hy with h1|h1
  ·exact h.ok y h1
  ·simp at h1;subst h1;exact l
theorem GenC.len(h:GenC code ok k xs):xs.length<=4:=by have:=h.sub.length_le;simp[Lm]at this;omega
theorem GenC.mem(h:GenC code ok k xs){x:α}(e:x∈xs):code x∈Lm:=auh (h.sub.subset (List.mem_map_of_mem e))
theorem GenC.jr(h:GenC code ok k xs):xs.Pairwise (fun a b=>Op.bytesLess (code a).toList (code b).toList=true):=by have e:=amH.sublist (h.sub.trans (List.take_sublist _ _));exact au3.1 e
end
def amI(x:bN):Prop:=(0<=x.aT/\x.aT<=2)/\(0<=x.amount/\x.amount<600000)/\(0<=x.cB/\x.cB<=50000)/\0<=x.cap/\x.cap<=20000
def amJ(x:Elem):Prop:=0<=x.amount/\x.amount<600000
abbrev GenD:=GenC bN.code amI
abbrev GenR:=GenC Elem.code amJ
theorem GenD.valid{k:Nat}{xs:List bN}(h:GenD k xs):gF xs=true:=by refine Ip.2 ⟨by have:=h.len;omega,fun x j=>?_,h.jr⟩;obtain⟨⟨a,b⟩,⟨c,d⟩,⟨e,f⟩,g,i⟩:=h.ok x j;exact⟨afU _ (h.mem j),by omega,by omega,by omega,by omega,by omega,by omega,by omega,by omega⟩
theorem GenR.valid{k:Nat}{xs:List Elem}(h:GenR k xs):fE xs=true:=by refine BQ.2 ⟨by have:=h.len;omega,fun x e=>?_,h.jr⟩;obtain⟨a,b⟩:=h.ok x e;exact⟨afU _ (h.mem e),by omega,by omega⟩
theorem amK(b M:Nat)(w:World)(hM:M<=800000)(hd:aW w b M):
  Calls prog 96 #[.pointer (some ⟨b,0,none⟩)] w fun e w'=>∃v xs,e=.returned v/\GenD 4 xs/\Own jH 6 166 w' w.heap.size v xs/\aW w' b (M+32)/\w.grownBy w' (some b):=by
 have ad:=hd.lt;go_enter func96,ntmps96;go_wp2_with fail;rw[show Obj.cells #[.string ⟨#[99,108,117,98]⟩,.string ⟨#[108,111,97,110]⟩,.string ⟨#[112,108,97,110]⟩,.string ⟨#[117,110,105,111,110]⟩] 9=Obj.cells Tl 9 from rfl]
 go_loopw [3,8] (fun v i wr=>∃(k:Nat) (xs:List bN),k<=4/\i=.int .i64 k/\GenD k xs/\Own jH 6 166 wr (w.heap.size+1) v xs/\aW wr b (M+8*k)/\ah wr w.heap.size 9 Tl/\w.grownBy wr (some b)) (fun _ i _=>4-(intOf i).toNat)
 case atStart=>exact⟨0,[],by omega,rfl,GenC.cC,Own.cC _ _,hd.alloc _,ah.new _ _ _,eG (dX _ _) _⟩
 case round=>
  obtain⟨k,xs,hk,rfl,B,l,D,j,C⟩:=hrel;by_cases E:k<4
  ·have c0:=(j.cell k).trans (afS k E);go_wp2_with fail;refine(il b (M+8*k) _ _ (by omega) (by omega) (by omega) D).mono ?_;rintro e w1 ⟨L,rfl,ae,af,F,n⟩;have aj:=j.lt;by_cases G:L=0
   ·subst G;go_wp2_with fail;refine(il b (M+8*k+1) _ _ (by omega) (by omega) (by omega) F).mono ?_;rintro e w2 ⟨r2,rfl,I,ak,N,r⟩;go_wp2_with fail;refine(il b (M+8*k+1+1) _ _ (by omega) (by omega) (by omega) N).mono ?_;rintro e w3 ⟨r3,rfl,PV,al,O,u⟩;go_wp2_with fail;refine(FM b (M+8*k+1+1+1) _ (by omega) O).mono ?_;rintro e w4 ⟨r4,rfl,Nl,am,P,y⟩;go_wp2_with fail;refine(pB b (M+8*k+1+1+1+2) w4 [0,100,5000,r4] _ _ _ rfl rfl (by omega) P (by simp) (by simp)).mono ?_;rintro e w5 ⟨Q,rfl,R,S,T⟩;go_wp2_with fail;refine(pB b (M+8*k+1+1+1+2+1) w5 [0,0,10000,50000] _ _ _ rfl rfl (by omega) S (by simp) (by simp)).mono ?_;rintro e w6 ⟨U,rfl,V,X,Y⟩;go_wp2_with fail;refine(pB b (M+8*k+1+1+1+2+1+1) w6 [0,0,20000,100] _ _ _ rfl rfl (by omega) X (by simp) (by simp)).mono ?_;rintro e w7 ⟨Z,rfl,kZ,gi,dJ⟩;have z:=bL (bL (bL (bL (bL (bL n r) u) y) T) Y) dJ;have cN:=l.kept z (by intro g e;injection e;omega);have Nx:=j.grown z (by intro e;injection e;omega);have nE:=bL C z;have Ny:=z.size;have ab:=B.len;have DO:0<=Q/\Q<600000:=(by simp at R;omega);have WS:0<=U/\U<=50000:=(by simp at V;omega);have Jz:0<=Z/\Z<=20000:=(by simp at kZ;omega);clear l j C n r u y T Y dJ D F N O P S X c0 R V kZ z;go_wp2_with(at_builtin;(refine lD _ _ 46 ⟨_,_,_,_,_,_⟩ _ 56 _ afj underlying46 cN GM (by omega) rfl (aaE _) (by omega) (by omega) (by omega) (by rfl) (by rfl) (by rfl) (by rfl) (by simp) (by rfl) ?_);intro v2 w8 cx J);have K:∀g,Value.ownBlock _=some g->w.heap.size+1<=g:=fun g e=>(cN.bR e).1;go_roundw
    case rel=>refine⟨k+1,_,by omega,by go_num,?_,cx,(gi.grown J (fun g e=>by have:=K g e;omega)).mono (by omega),Nx.grown J (fun e=>by have:=K _ e.symm;omega),pT nE J (fun g e=>.inl (by have:=K g e;omega))⟩;exact B.more E _ rfl ⟨⟨I,by show r2<=2;omega⟩,DO,WS,Jz⟩
    case measure=>simp[intOf];omega
   ·have Hi:(L==0)=false:=(by simpa using G);have p:=l.kept n (by intro g e;injection e;omega);have Nz:=j.grown n (by intro e;injection e;omega);clear G;go_wp2_with fail;go_roundw
    case rel=>exact⟨k+1,xs,by omega,by go_num,B.skip E,p,F.mono (by omega),Nz,bL C n⟩
    case measure=>simp[intOf];omega
  ·go_wp2;go_ret;obtain rfl:k=4:=by omega
   exact⟨_,xs,rfl,B,l.weaken (by omega),D,C⟩
theorem amL(b M:Nat)(w:World)(hM:M<=800000)(hd:aW w b M):
  Calls prog 72 #[.pointer (some ⟨b,0,none⟩)] w fun e w'=>∃v xs,e=.returned v/\GenR 4 xs/\Own aN 2 69 w' w.heap.size v xs/\aW w' b (M+16)/\w.grownBy w' (some b):=by
 have Q:=hd.lt;go_enter func72,ntmps72;go_wp2_with fail;rw[show Obj.cells #[.string ⟨#[99,108,117,98]⟩,.string ⟨#[108,111,97,110]⟩,.string ⟨#[112,108,97,110]⟩,.string ⟨#[117,110,105,111,110]⟩] 9=Obj.cells Tl 9 from rfl]
 go_loopw [3,8] (fun v i wr=>∃(k:Nat) (xs:List Elem),k<=4/\i=.int .i64 k/\GenR k xs/\Own aN 2 69 wr (w.heap.size+1) v xs/\aW wr b (M+4*k)/\ah wr w.heap.size 9 Tl/\w.grownBy wr (some b)) (fun _ i _=>4-(intOf i).toNat)
 case atStart=>exact⟨0,[],by omega,rfl,GenC.cC,Own.cC _ _,hd.alloc _,ah.new _ _ _,eG (dX _ _) _⟩
 case round=>
  obtain⟨k,xs,hk,rfl,y,l,B,j,z⟩:=hrel;by_cases C:k<4
  ·have R:=(j.cell k).trans (afS k C);go_wp2_with fail;refine(il b (M+4*k) _ _ (by omega) (by omega) (by omega) B).mono ?_;rintro e w1 ⟨I,rfl,S,T,D,n⟩;have U:=j.lt;by_cases E:I=0
   ·subst E;go_wp2_with fail;refine(FM b (M+4*k+1) _ (by omega) D).mono ?_;rintro e V ⟨X,rfl,Nl,Y,J,r⟩;go_wp2_with fail;refine(pB b (M+4*k+1+2) V [0,50,100,19999,20000,X] _ _ _ rfl rfl (by omega) J (by simp) (by simp)).mono ?_;rintro e w7 ⟨K,rfl,L,Z,N⟩;have u:=bL (bL n r) N;have O:=l.kept u (by intro g e;injection e;omega);have Nx:=j.grown u (by intro e;injection e;omega);have nE:=bL z u;have Ny:=u.size;have P:=y.len;have Jz:0<=K/\K<600000:=(by simp at L;omega);clear l j z n r N B D J R L u;go_wp2_with(at_builtin;(refine lD _ _ 51 ⟨_,_⟩ _ 24 _ nQ underlying51 O dG (by omega) rfl (mF _) (by omega) (by omega) (by omega) (by rfl) (by rfl) (by rfl) (by rfl) (by simp) (by rfl) ?_);intro v2 w8 cx F);have G:∀g,Value.ownBlock _=some g->w.heap.size+1<=g:=fun g e=>(O.bR e).1;go_roundw
    case rel=>refine⟨k+1,_,by omega,by go_num,?_,cx,(Z.grown F (fun g e=>by have:=G g e;omega)).mono (by omega),Nx.grown F (fun e=>by have:=G _ e.symm;omega),pT nE F (fun g e=>.inl (by have:=G g e;omega))⟩;exact y.more C _ rfl Jz
    case measure=>simp[intOf];omega
   ·have Hi:(I==0)=false:=(by simpa using E);have p:=l.kept n (by intro g e;injection e;omega);have Nz:=j.grown n (by intro e;injection e;omega);clear E;go_wp2_with fail;go_roundw
    case rel=>exact⟨k+1,xs,by omega,by go_num,y.skip C,p,D.mono (by omega),Nz,bL z n⟩
    case measure=>simp[intOf];omega
  ·go_wp2;go_ret;obtain rfl:k=4:=by omega
   exact⟨_,xs,rfl,y,l.weaken (by omega),B,z⟩
theorem amM:(Tryz.prog.info? 3).map (fun i=>(i.zero,i.size,i.bytes))=some (some (.int .i64 0),1,8):=by kernel_rfl
theorem PY(x:Int):∀u∈encI x,u.oneCell'=true:=by intro u hu;simp[encI]at hu;subst hu;rfl
theorem Jy(w:World)(l:List Int)(e:Array Value)(h:e=(l.flatMap encI).toArray):ai encI 1 (w.alloc (.cells e 3)) (w.alloc (.cells e 3)).heap.size (some ⟨w.heap.size,0,none⟩) l:=
 (ai.new iX w l e 3 h).more (by simp)
theorem PQ(b M:Nat)(w:World)(G:M<=900000)(hd:aW w b M):
  Calls prog 120 #[.pointer (some ⟨b,0,none⟩)] w fun e w'=>∃r:Int,e=.returned (.int .i64 r)/\0<=r/\r<=1000000/\aW w' b (M+2)/\w.grownBy w' (some b):=by
 have y:=hd.lt;go_enter func120,ntmps120;go_wp2_with fail;refine(il b M _ _ (by omega) (by omega) (by omega) hd).mono ?_;rintro e z ⟨B,rfl,C,D,u,j⟩;have I:=u.lt;go_wp2_with fail;refine(FH b (M+1) _ _ [0,1,75000,93000,200000,333333,420000,500000,1000000,B] _ (by omega) (u.alloc _) (by simp) (by simp) (Jy z _ _ rfl) (by intro a l;injection l with l;subst l;simp;omega)).mono ?_;rintro e J ⟨n,rfl,E,F,p⟩;go_wp2;go_ret;have:0<=n/\n<=1000000:=by simp at E;omega
 exact⟨n,rfl,this.1,this.2,F,bL (eG j _) p⟩
theorem afV(b M n:Nat)(w:World)(hM:M<=500000)(hn:n<=1000)(hd:aW w b M):
  Calls prog 71 #[.pointer (some ⟨b,0,none⟩),.int .i64 n] w fun e w'=>∃v xs,e=.returned v/\xs.length=n/\(∀x∈xs,0<=x/\x<=1000000)/\Own encI 1 3 w' w.heap.size v xs/\aW w' b (M+5*n)/\w.grownBy w' (some b):=by
 have S:=hd.lt;go_enter func71,ntmps71;go_wp2
 go_loopw [5,6] (fun v i wr=>∃(k:Nat) (xs:List Int),k<=n/\i=.int .i64 k/\xs.length=k/\Hid (∀x∈xs,0<=x/\x<=1000000)/\Own encI 1 3 wr w.heap.size v xs/\aW wr b (M+5*k)/\w.grownBy wr (some b)) (fun _ i _=>n-(intOf i).toNat)
 case atStart=>exact⟨0,[],by omega,rfl,rfl,(fun x hx=>by cases hx),Own.cC _ _,hd,dX _ _⟩
 case round=>
  obtain⟨k,xs,hk,rfl,p,r,j,F,C⟩:=hrel;have l:=atM p;clear p;by_cases jo:k<n
  ·go_wp2_with fail;refine(FM b (M+5*k) _ (by omega) F).mono ?_;rintro e w1 ⟨T,rfl,U,V,L,y⟩;go_wp2_with fail;refine(FM b (M+5*k+2) _ (by omega) L).mono ?_;rintro e X ⟨Y,rfl,Z,ab,G,z⟩;have fO:=G.lt;go_wp2_with fail;refine(FH b (M+5*k+2+2) _ _ [T,Y,0,500000,1000000] _ (by omega) (G.alloc _) (by simp) (by simp) (Jy X _ _ rfl) (by intro a I;injection I with I;subst I;simp;omega)).mono ?_;rintro e w3 ⟨D,rfl,N,fg,B⟩;have h3:0<=D/\D<=1000000:=(by simp at N;omega);have E:wr.grownBy w3 (some b):=bL (eG (bL y z) _) B;have O:=j.kept E (by intro g e;injection e;omega);have J:w.heap.size<=w3.heap.size:=at7 C.size E.size;have P:=fun q hq=>(O.bR (g:=q) hq).1;have Az:xs.length<4294967296:=(by have:=l.out;omega);have nE:=bL C E;clear L G y z B F j N E C;go_wp2_with(at_builtin;(refine lD _ _ 34 D _ 8 _ amM underlying34 O iX (by omega) rfl (PY _) Az (by omega) J (by rfl) (by rfl) (by rfl) (by rfl) (by simp) (by rfl) ?_);intro v2 K cA Q);go_roundw
   case rel=>
    have R:∃(k':Nat) (u:List Int),k'<=n/\Value.int .i64 ((k:Int)+1)=.int .i64 k'/\u.length=k'/\Hid (∀x∈u,0<=x/\x<=1000000)/\Own encI 1 3 K w.heap.size v2 u/\aW K b (M+5*k')/\w.grownBy K (some b):=by
     refine⟨k+1,xs++[D],by omega,by go_num,by have:=l.out;simp;omega,fun x hx=>?_,cA,(fg.grown Q (fun q e=>by have:=P q e;omega)).mono (by omega),pT nE Q (fun q e=>.inl (P q e))⟩;rcases aul.1 hx with hx|hx
     ·exact r.out x hx
     ·simp at hx;subst hx;exact h3
    first|exact R|((repeat apply Exists.intro);exact⟨R,rfl⟩)
   case measure=>simp[intOf];omega
  ·go_wp2;go_ret;exact⟨_,xs,rfl,by have:=l.out;omega,r.out,j,F.mono (by omega),C⟩
theorem aW.set{w:World}{b M:Nat}(h:aW w b M){g:Nat}(j:b<g)(i:Nat)(u:Value):aW (w.setCell ⟨g,i,none⟩ u) b M:=
 h.grown (bg (g:=g) (p:=⟨g,i,none⟩) (dX _ _) (.inl rfl) u) (fun q e=>by
  have l:g=q:=by injection e
  omega)
def Ln:List ByteArray:=[⟨#[99,104,105,108,100]⟩,⟨#[99,105,116,121]⟩,⟨#[99,111,117,114,116]⟩,⟨#[116,97,120,49]⟩,⟨#[116,97,120,50]⟩]
def abc:Array Value:=#[.string ⟨#[99,104,105,108,100]⟩,.string ⟨#[99,105,116,121]⟩,.string ⟨#[99,111,117,114,116]⟩,.string ⟨#[116,97,120,49]⟩,.string ⟨#[116,97,120,50]⟩]
def abd(k:Nat):ByteArray:=Ln.getD k ⟨#[]⟩
theorem amN(k:Nat)(h:k<5):abc[k]?=some (.string (abd k)):=by
 match k,h with
 |0,_=>rfl
 |1,_=>rfl
 |2,_=>rfl
 |3,_=>rfl
 |4,_=>rfl
theorem afW(k:Nat)(h:k<5):Ln.take (k+1)=Ln.take k++[abd k]:=by
 match k,h with
 |0,_=>rfl
 |1,_=>rfl
 |2,_=>rfl
 |3,_=>rfl
 |4,_=>rfl
theorem amO:∀c∈Ln,bI c=true:=by decide+kernel
theorem amP:Ln.Pairwise (fun a b=>Op.bytesLess a.toList b.toList=true):=by decide+kernel
def afX(x:bn):Prop:=(0<=x.aT/\x.aT<=2)/\(0<=x.day/\x.day<=20)/\(0<=x.amount/\x.amount<600000)/\0<=x.total/\x.total<600000
structure Cj(k:Nat)(xs:List bn):Prop where
 sub:(xs.map (·.id)).Sublist (Ln.take k)
 ok:∀x∈xs,afX x
theorem Cj.cC:Cj 0 []:=⟨by simp,by simp⟩
theorem Cj.skip{k:Nat}{xs:List bn}(h:Cj k xs)(e:k<5):Cj (k+1) xs:=⟨by rw[afW k e];exact h.sub.trans (List.sublist_append_left _ _),h.ok⟩
theorem Cj.more{k:Nat}{xs:List bn}(h:Cj k xs)(e:k<5)(x:bn)(j:x.id=abd k)(l:afX x):Cj (k+1) (xs++[x]):=by
 refine⟨?_,fun y hy=>?_⟩
 ·rw[afW k e,auK];exact h.sub.append (by simp[j])
 ·rcases aul.1 hy with h1|h1
  ·exact h.ok y h1
  ·simp at h1;subst h1;exact l
theorem Cj.len{k:Nat}{xs:List bn}(h:Cj k xs):xs.length<=5:=by have:=h.sub.length_le;simp[Ln]at this;omega
theorem Cj.akq{k:Nat}{xs:List bn}(h:Cj k xs):Bq xs:=by
 refine⟨by have:=h.len;omega,fun x j=>?_,?_⟩
 ·obtain⟨⟨a,b⟩,⟨c,d⟩,⟨e,f⟩,g,i⟩:=h.ok x j;have l:x.id∈Ln:=auh (h.sub.subset (List.mem_map_of_mem j));exact⟨amO _ l,by omega,by omega,by omega,by omega,by omega,by omega,by omega,by omega⟩
 ·have n:=amP.sublist (h.sub.trans (List.take_sublist _ _));exact au3.1 n
theorem amQ(b M:Nat)(w:World)(hM:M<=700000)(hd:aW w b M):
  Calls prog 97 #[.pointer (some ⟨b,0,none⟩)] w fun e w'=>∃v xs,e=.returned v/\Cj 5 xs/\Own mO 5 67 w' w.heap.size v xs/\aW w' b (M+45)/\w.grownBy w' (some b):=by
 have ad:=hd.lt;go_enter func97,ntmps97;go_wp2_with fail;rw[show Obj.cells #[.string ⟨#[99,104,105,108,100]⟩,.string ⟨#[99,105,116,121]⟩,.string ⟨#[99,111,117,114,116]⟩,.string ⟨#[116,97,120,49]⟩,.string ⟨#[116,97,120,50]⟩] 9=Obj.cells abc 9 from rfl]
 go_loopw [3,8] (fun v i wr=>∃(k:Nat) (xs:List bn),k<=5/\i=.int .i64 k/\Cj k xs/\Own mO 5 67 wr (w.heap.size+1) v xs/\aW wr b (M+9*k)/\ah wr w.heap.size 9 abc/\w.grownBy wr (some b)) (fun _ i _=>5-(intOf i).toNat)
 case atStart=>exact⟨0,[],by omega,rfl,Cj.cC,Own.cC _ _,hd.alloc _,ah.new _ _ _,eG (dX _ _) _⟩
 case round=>
  obtain⟨k,xs,hk,rfl,B,l,D,j,C⟩:=hrel;by_cases E:k<5
  ·have c0:=(j.cell k).trans (amN k E);go_wp2_with fail;refine(il b (M+9*k) _ _ (by omega) (by omega) (by omega) D).mono ?_;rintro e w1 ⟨L,rfl,ae,af,F,n⟩;have aj:=j.lt;by_cases G:L=0
   ·subst G;go_wp2_with fail;refine(il b (M+9*k+1) _ _ (by omega) (by omega) (by omega) F).mono ?_;rintro e w2 ⟨r2,rfl,I,ak,N,r⟩;go_wp2_with fail;refine(pB b (M+9*k+1+1) w2 [10,10,20] _ _ _ rfl rfl (by omega) N (by simp) (by simp)).mono ?_;rintro e w3 ⟨O,rfl,P,Q,u⟩;go_wp2_with fail;refine(FM b (M+9*k+1+1+1) _ (by omega) Q).mono ?_;rintro e w4 ⟨r4,rfl,Nl,al,R,y⟩;go_wp2_with fail;refine(pB b (M+9*k+1+1+1+2) w4 [0,5000,30000,r4] _ _ _ rfl rfl (by omega) R (by simp) (by simp)).mono ?_;rintro e w5 ⟨S,rfl,T,U,V⟩;go_wp2_with fail;refine(FM b (M+9*k+1+1+1+2+1) _ (by omega) U).mono ?_;rintro e w6 ⟨r6,rfl,Lj,bu,X,Y⟩;go_wp2_with fail;refine(pB b (M+9*k+1+1+1+2+1+2) w6 [100000,1,0,r6] _ _ _ rfl rfl (by omega) X (by simp) (by simp)).mono ?_;rintro e w7 ⟨Z,rfl,kZ,gi,dJ⟩;have z:=bL (bL (bL (bL (bL (bL n r) u) y) V) Y) dJ;have cN:=l.kept z (by intro g e;injection e;omega);have Nx:=j.grown z (by intro e;injection e;omega);have nE:=bL C z;have Ny:=z.size;have ab:=B.len;have EH:0<=O/\O<=20:=(by simp at P;omega);have DO:0<=S/\S<600000:=(by simp at T;omega);have Jz:0<=Z/\Z<600000:=(by simp at kZ;omega);clear l j C n r u y V Y dJ D F N Q R U X c0 P T kZ z;go_wp2_with(at_builtin;(refine lD _ _ 47 ⟨_,_,_,_,_⟩ _ 48 _ amR underlying47 cN afY (by omega) rfl (amS _) (by omega) (by omega) (by omega) (by rfl) (by rfl) (by rfl) (by rfl) (by simp) (by rfl) ?_);intro v2 w8 cx J);have K:∀g,Value.ownBlock _=some g->w.heap.size+1<=g:=fun g e=>(cN.bR e).1;go_roundw
    case rel=>refine⟨k+1,_,by omega,by go_num,?_,cx,(gi.grown J (fun g e=>by have:=K g e;omega)).mono (by omega),Nx.grown J (fun e=>by have:=K _ e.symm;omega),pT nE J (fun g e=>.inl (by have:=K g e;omega))⟩;exact B.more E _ rfl ⟨⟨I,by show r2<=2;omega⟩,EH,DO,Jz⟩
    case measure=>simp[intOf];omega
   ·have Hi:(L==0)=false:=(by simpa using G);have p:=l.kept n (by intro g e;injection e;omega);have Nz:=j.grown n (by intro e;injection e;omega);clear G;go_wp2_with fail;go_roundw
    case rel=>exact⟨k+1,xs,by omega,by go_num,B.skip E,p,F.mono (by omega),Nz,bL C n⟩
    case measure=>simp[intOf];omega
  ·go_wp2;go_ret;obtain rfl:k=5:=by omega
   exact⟨_,xs,rfl,B,l.weaken (by omega),D,C⟩
structure PZ(w:World)(base b:Nat)(v:Value)(k:Nat)(es:List cI):Prop where
 len:∀e∈es,e.l.length=k
 RR:∀e∈es,0<=e.base/\e.base<=1000000
 RS:∀e∈es,∀x∈e.l,0<=x/\x<=1000000
 sl:∀e∈es,ai encI 1 w w.heap.size e.A e.l
 lt:∀e∈es,∀a,e.A=some a->a.block<w.heap.size
 fr:∀e∈es,∀a,e.A=some a->base<=a.block/\a.block≠b/\v.ownBlock≠some a.block
theorem ai.CV{α:Type}{l:α->List Value}{k:Nat}{w w':World}{A:Option Addr}{xs:List α}{row:Option Nat}(h:ai l k w w.heap.size A xs)(p:w.grownBy w' row)(y:∀a,A=some a->row≠some a.block):ai l k w' w'.heap.size A xs:=fun n=>by obtain⟨q,off,e,r,z⟩:=h n;have B:=y _ e;exact⟨q,off,e,auD r p.size,fun i x hi j u C=>(auX (a:=⟨q,off+i*k+j,none⟩) (p.block q r (fun e=>B e.symm))).trans (z i x hi j u C)⟩
theorem PZ.grown{w w':World}{base b:Nat}{v:Value}{k:Nat}{p:List cI}(h:PZ w base b v k p)(r:w.grownBy w' (some b)):PZ w' base b v k p:=
 ⟨h.len,h.RR,h.RS,fun e j=>(h.sl e j).CV r (fun a l n=>(h.fr e j a l).2.1 (by injection n with n;exact n.symm)),fun e j a l=>auD (h.lt e j a l) r.size,h.fr⟩
theorem amT(b M n k:Nat)(w:World)(hM:M<=300000)(hn:n<=7)(ab:k<=53)(hd:aW w b M):
  Calls prog 98 #[.pointer (some ⟨b,0,none⟩),.int .i64 n,.int .i64 k] w fun e w'=>∃v y,e=.returned v/\y.length=n/\PZ w' w.heap.size b v k y/\Own pS 2 137 w' w.heap.size v y/\aW w' b (M+300*n)/\w.grownBy w' (some b):=by
 have ad:=hd.lt;go_enter func98,ntmps98;go_wp2
 go_loopw [7,8] (fun v i wr=>∃(m:Nat) (y:List cI),m<=n/\i=.int .i64 m/\Hid (y.length=m)/\PZ wr w.heap.size b v k y/\Own pS 2 137 wr w.heap.size v y/\aW wr b (M+300*m)/\w.grownBy wr (some b)) (fun _ i _=>n-(intOf i).toNat)
 case atStart=>exact⟨0,[],by omega,rfl,rfl,⟨by simp,by simp,by simp,by simp,by simp,by simp⟩,Own.cC _ _,hd,dX _ _⟩
 case round=>
  obtain⟨m,y,hm,rfl,r,D,u,Q,U⟩:=hrel;have br:=U.size;by_cases ae:m<n
  ·go_wp2_with fail;refine(afV b (M+300*m) k _ (by omega) (by omega) Q).mono ?_;rintro e w1 ⟨v1,xs,rfl,Y,Z,l,bP,I⟩;have V:=atM Y;have HX:=atM Z;clear Y Z;obtain⟨E,c1,rfl,J,K,_⟩:=l.form iX;have NA:∀a,E=some a->a.block<w1.heap.size:=fun a j=>by subst j;exact(l.bR rfl).2
   go_wp2_with fail;refine(FM b (M+300*m+5*k) _ (by omega) bP).mono ?_;rintro e w2 ⟨r2,rfl,af,aj,dw,z⟩;go_wp2_with fail;refine(pB b (M+300*m+5*k+2) w2 [r2,0,500000] _ _ _ rfl rfl (by omega) dw (by simp) (by simp)).mono ?_;rintro e w3 ⟨R,rfl,gG,fg,B⟩;have EH:0<=R/\R<=1000000:=(by simp at gG;omega);have ak:b<wr.heap.size:=(by have:=Q.lt;omega);have S:∀a,E=some a->wr.heap.size<=a.block:=K;have fW:ai encI 1 w3 w3.heap.size E xs:=(J.CV z (fun a j e=>by injection e;have:=S a j;omega)).CV B (fun a j e=>by injection e;have:=S a j;omega);have T:=bL (bL I z) B;have L:=D.grown T;have jx:=u.kept T (by intro g e;injection e;omega);have Lk:∀q,Value.ownBlock _=some q->q<wr.heap.size:=fun q hq=>(u.bR hq).2;have nE:=bL U T;have al:=T.size;have N:Hid (y.length=m):=r;have am:y.length<=7:=(by have:=r.out;omega);have Px:=atM fW;have C:=atM L;have O:=atM Lk;have P:=atM S;have Fp:∀a,E=some a->a.block<w3.heap.size:=fun a j=>by have:=NA a j;have:=z.size;have:=B.size;omega
   have KP:=atM Fp;clear NA Fp J fW D L u l Q bP dw I z B K S Lk gG r;go_wp2_with(at_builtin;(refine OL _ _ 48 ⟨E,c1,xs,R⟩ _ 32 _ aay underlying48 jx KT (by omega) rfl (aaz _) (by omega) (by omega) (by omega) (by rfl) (by rfl) (by rfl) (by rfl) (by simp) (by rfl) ?_);intro v8 w8 cx F ig);have nJ:∀g,Value.ownBlock _=some g->w.heap.size<=g:=fun g e=>(jx.bR e).1;have X:PZ w8 w.heap.size b v8 k (y++[⟨E,c1,xs,R⟩]):=by
    refine⟨fun e G=>?_,fun e G=>?_,fun e G=>?_,fun e G=>?_,fun e G a j=>?_,fun e G a j=>?_⟩
    all_goals rcases aul.1 G with h|h
    ·exact C.out.len e h
    ·simp at h;subst h;exact V.out
    ·exact C.out.RR e h
    ·simp at h;subst h;exact EH
    ·exact C.out.RS e h
    ·simp at h;subst h;exact HX.out
    ·exact(C.out.sl e h).CV F (fun a j p=>(C.out.fr e h a j).2.2 p)
    ·simp at h;subst h;exact Px.out.CV F (fun a j p=>by have:=O.out _ p;have:=P.out a j;omega)
    ·exact auD (C.out.lt e h a j) F.size
    ·simp at h;subst h;exact auD (KP.out a j) F.size
    ·obtain⟨f1,f2,f3⟩:=C.out.fr e h a j;refine⟨f1,f2,fun p=>?_⟩;rcases ig with e1|e1
     ·rw[e1]at p;exact f3 p
     ·rw[e1]at p;injection p with p;have:=C.out.lt e h a j;omega
    ·simp at h;subst h;have g1:=P.out a j;refine⟨by omega,by omega,fun p=>?_⟩;rcases ig with e1|e1
     ·rw[e1]at p;have:=O.out _ p;omega
     ·rw[e1]at p;injection p with p;have:=KP.out a j;omega
   go_roundw
   case rel=>exact⟨m+1,_,by omega,by go_num,by rw[Hid,at3,N.out];rfl,X,cx,(fg.grown F (fun g e=>by have:=nJ g e;omega)).mono (by omega),pT nE F (fun g e=>.inl (nJ g e))⟩
   case measure=>simp[intOf];omega
  ·go_wp2;go_ret;obtain rfl:m=n:=by omega
   exact⟨_,y,rfl,r.out,D,u,Q,U⟩
theorem afO(b M:Nat)(w:World)(z:M<=900000)(hd:aW w b M):
  Calls prog 118 #[.pointer (some ⟨b,0,none⟩)] w fun e w'=>∃r:Int,e=.returned (.int .i64 r)/\0<=r/\r<=6/\aW w' b (M+1)/\w.grownBy w' (some b):=by
 have n:=hd.lt;go_enter func118,ntmps118;go_wp2_with fail;refine(il b M _ _ (by omega) (by omega) (by omega) hd).mono ?_;rintro e B ⟨p,rfl,j,u,y,l⟩;go_wp2;go_ret;exact⟨p,rfl,j,by omega,y,l⟩
