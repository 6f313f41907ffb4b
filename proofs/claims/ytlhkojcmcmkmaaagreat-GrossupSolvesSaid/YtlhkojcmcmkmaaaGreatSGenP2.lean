/- Conditions: as stated. -/
import Derived.Test.YtlhkojcmcmkmaaaGreatSGenR
set_option maxHeartbeats 2000000
namespace Go.Proofs.YtlhkojcmcmkmaaaGreat
open Go.Proofs.Tryz
open Go.RowKit
def GenE(e:List cO)(j:List Elem):Prop:=∀x∈j,(∃y∈e,x.code=y.code)/\-600000<x.amount/\x.amount<600000
def K4(wr:World)(b M:Nat)(j:List cO)(s:Value)(e:World):Prop:=∃(g:Nat) (x:Elem),s=.pointer (some ⟨g,0,none⟩)/\wr.heap.size<=g/\ah e g 69 #[.string x.code,.int .i64 x.amount]/\aX e b M/\wr.grownBy e (some b)/\
 (∃y∈j,x.code=y.code)/\0<=x.amount/\x.amount<600000
theorem K4.two{wr W:World}{b M g j:Nat}{n:List cO}{cs:Array Value}{r:Int}(u:cs.size=2)(z:ah W g 69 cs)(y:wr.heap.size<=g)(I:b<wr.heap.size)(hd:aX W b M)(B:wr.grownBy W (some b))(C:j<n.length)(D:0<=r)(E:r<600000):
  K4 wr b M n (.pointer (some ⟨g,0,none⟩)) ((W.setCell ⟨g,0,none⟩ (.string n[j].code)).setCell ⟨g,1,none⟩ (.int .i64 r)):=by
 refine⟨g,⟨n[j].code,r⟩,rfl,y,?_,?_,?_,⟨n[j],arO C,rfl⟩,D,E⟩
 ·have F:=(z.eu 0 (.string n[j].code)).eu 1 (.int .i64 r);obtain⟨l⟩:=cs
  match l,u with
  |[a,c],_=>simpa using F
 ·have G:W.grownBy ((W.setCell ⟨g,0,none⟩ (.string n[j].code)).setCell ⟨g,1,none⟩ (.int .i64 r)) (some g):=bm (p:=⟨g,1,none⟩) (bm (p:=⟨g,0,none⟩) (fe _ _) (.inl rfl) _) (.inl rfl) _;exact hd.grown G (fun k e=>by injection e;omega)
 ·exact bm (p:=⟨g,1,none⟩) (bm (p:=⟨g,0,none⟩) B (.inr y) _) (.inr y) _
theorem K4.new{wr W:World}{b M g j:Nat}{e:List cO}{r:Int}(n:g=W.heap.size)(hd:aX W b M)(l:wr.grownBy W (some b))(p:j<e.length)(u:0<=r)(y:r<600000):
  K4 wr b M e (.pointer (some ⟨g,0,none⟩)) (W.alloc (.cells #[.string e[j].code,.int .i64 r] 69)):=by
 subst n;exact⟨W.heap.size,⟨e[j].code,r⟩,rfl,l.size,ah.new _ _ _,hd.alloc _,fJ l _,⟨e[j],arO p,rfl⟩,u,y⟩
theorem alE(b M:Nat)(A:Option Addr)(B:List cO)(c n:Nat)(w:World)(hM:M<=800000)(hn:1<=n)(mU:n<=100)(hd:aX w b M)(hs:aj gG 6 w w.heap.size A B)(hA:∀a,A=some a->a.block≠b)(hl:B.length<=100):
  Calls prog 28 #[.pointer (some ⟨b,0,none⟩),.slice A B.length c,.int .i64 n] w fun e w'=>∃v C,e=.returned v/\GenE B C/\C.length<=n/\Own aQ 2 69 w' w.heap.size v C/\aX w' b (M+1+4*n)/\w.grownBy w' (some b):=by
 have aA:=hd.lt;go_enter func28,ntmps28;go_wp2_with fail;refine(kg b M _ _ (by omega) (by omega) (by omega) hd).mono ?_;rintro e w0 ⟨r0,rfl,ad,aE,eY,F⟩;obtain⟨k0,rfl⟩:=atf ad;go_wp2_with fail
 go_loopw [7,8] (fun v i wr=>∃(k:Nat) (C:List Elem),k<=n/\i=.int .i64 k/\C.length+k<=n/\GenE B C/\Own aQ 2 69 wr w.heap.size v C/\aX wr b (M+1+4*(n-k))/\w.grownBy wr (some b)) (fun _ i _=>(intOf i).toNat)
 case atStart=>exact⟨k0,[],by omega,rfl,by simp;omega,by simp[GenE],Own.cL _ _,eY.mono (by omega),F⟩
 case round=>
  obtain⟨k,C,hk,rfl,az,jl,j,G,E⟩:=hrel;have U:=G.lt;by_cases fS:0<k
  ·by_cases ae:0<B.length
   ·have V:B≠[]:=atg.1 ae;obtain⟨R,X,rfl,Wc,Y⟩:=hs V;have Z:=hA _ rfl;have ab:=arH Y;clear Y hs hA V;go_upto_region 5 with fail
    go_cut [9] (fun s9 wx=>K4 wr b (M+1+4*(n-k)+1+2) B s9 wx)
    case first=>
     go_region_with (first|(go_at_call 34;(refine(kg b (M+1+4*(n-k)) _ _ (by omega) (by omega) (by omega) (by first|exact G|exact G.alloc _)).mono ?_;rintro e S ⟨r1,rfl,af,aJ,bS,r⟩;have Wb:=bS.lt;obtain⟨j1,rfl⟩:=atf af;have MZ:j1<B.length:=(by omega);have l:w.grownBy S (some b):=(by first|exact ck (Rn E) r|exact ck (Rn (fJ E _)) r);have I:=(asT (a:=⟨R,X+j1*6+0,none⟩) (l.block R Wc (fun e=>Z (by injection e)))).trans (ab.out j1 _ (arW MZ) 0 _ rfl);simp only[arL]at I;have aK:R<S.heap.size:=asy Wc l.size;(try(have Su:ah S wr.heap.size 69 #[.string ⟨#[]⟩,.int .i64 0]:=ah.grown (w:=(wr.alloc _).drew) (ah.new wr _ _) r (by intro e;injection e;omega);have ai:=Su.cell 0;have al:=Su.cell 1;have aN:=Su.frozen 0;have aO:=Su.frozen 1;simp only[ak,aq,ar]at ai al))))|(go_at_call 41;refine(K3 b (M+1+4*(n-k)+1) _ (by omega) (by first|exact bS|exact bS.alloc _)).mono ?_;rintro e w2 ⟨r2,rfl,J,K,dC,u⟩;have Ci:w.grownBy w2 (some b):=(by first|exact ck l u|exact ck (fJ l _) u);have am:=(asT (a:=⟨R,X+j1*6+0,none⟩) (Ci.block R Wc (fun e=>Z (by injection e)))).trans (ab.out j1 _ (arW MZ) 0 _ rfl);simp only[arL]at am;have aS:R<w2.heap.size:=asy Wc Ci.size;(try(have fk:ah w2 S.heap.size 69 #[.string ⟨#[]⟩,.int .i64 0]:=ah.grown (w:=(S.alloc _)) (ah.new S _ _) u (by intro e;injection e;omega);have L:=fk.cell 0;have N:=fk.cell 1;have an:=fk.frozen 0;have ao:=fk.frozen 1;simp only[ak,aq,ar]at L N));(try(have K5:ah w2 wr.heap.size 69 #[.string ⟨#[]⟩,.int .i64 0]:=Su.grown u (by intro e;injection e;omega);have L:=K5.cell 0;have N:=K5.cell 1;have an:=K5.frozen 0;have ao:=K5.frozen 1;simp only[ak,aq,ar]at L N))))
     all_goals(go_wp2_with fail;go_meet;first|exact K4.new rfl dC (by first|exact ck (ck (Rn (fe _ _)) r) u) MZ J K|exact K4.two rfl fk (by have:=r.size;simp at this;omega) U dC (by exact ck (fJ (ck (Rn (fe _ _)) r) _) u) MZ J K|exact K4.two rfl K5 (arI _) U dC (by exact ck (ck (Rn (fJ (fe _ _) _)) r) u) MZ J K)
    case rest=>
     obtain⟨g,x,rfl,ap,hB,F6,l,VN,aT,I⟩:=hcut;have aU:g≠b:=(by omega);go_wp2_with fail;refine(kg b (M+1+4*(n-k)+3) _ _ (by omega) (by omega) (by omega) F6).mono ?_;rintro e w3 ⟨r3,rfl,aV,aZ,iF,D⟩;have O:=hB.grown D (by intro e;injection e;omega);have d0:=O.cell 0;have d1:=O.cell 1;have f1:=O.frozen 1;have L6:=O.lt;simp only[ak,aq,ar]at d0 d1;have T:wr.grownBy w3 (some b):=ck l D;have jv:=j.kept T (by intro g e;injection e;omega);have au:∀q,u7.ownBlock=some q->q≠g:=fun q hq=>by have:=(j.cm hq).2;omega
     by_cases P:r3=0
     ·subst P;have e1:=O.eu 1 (.int .i64 (-x.amount));simp at e1;have Sv:=e1.cell 0;have av:=e1.cell 1;simp only[ak,aq,ar]at Sv av;have fh:=jv.setCell (p:=⟨g,1,none⟩) au (.int .i64 (-x.amount));have Gv:=bm (p:=⟨g,1,none⟩) T (.inr ap) (.int .i64 (-x.amount));have ed:w.heap.size<=(w3.setCell ⟨g,1,none⟩ (.int .i64 (-x.amount))).heap.size:=ar0 E.size Gv.size;have og:=fun q hq=>(j.cm (g:=q) hq).1;have fK:aX (w3.setCell ⟨g,1,none⟩ (.int .i64 (-x.amount))) b (M+1+4*(n-k)+3+1):=iF.grown (bm (fe _ _) (.inl rfl) _:w3.grownBy _ (some g)) (fun q e=>by injection e;omega);clear hB O j jv F6 iF G eY hd l D T F e1;go_wp2_with(at_builtin;(refine mQ _ _ 51 ⟨x.code,-x.amount⟩ _ 24 _ ll underlying51 fh dB (by omega) rfl (kO _) (by omega) (by omega) ed (by rfl) (by rfl) (by rfl) (by rfl) (by simp) (by rfl) ?_);intro v2 Q cI dS);have EJ:GenE B (C++[⟨x.code,-x.amount⟩]):=by
       intro y hy;rcases asf.1 hy with h1|h1
       ·exact jl y h1
       ·simp at h1;subst h1;exact⟨VN,by show-600000< -x.amount;omega,by show-x.amount<600000;omega⟩
      go_roundw
      case rel=>
       have ay:∃(k':Nat) (z:List Elem),k'<=n/\Value.int .i64 ((k:Int)-1)=.int .i64 k'/\z.length+k'<=n/\GenE B z/\Own aQ 2 69 Q w.heap.size v2 z/\aX Q b (M+1+4*(n-k'))/\w.grownBy Q (some b):=
        ⟨k-1,_,by omega,by go_num,by simp;omega,EJ,cI,(fK.grown dS (fun q e=>by have:=og q e;omega)).mono (by omega),Cf (ck E Gv) dS (fun q e=>.inl (og q e))⟩
       first|exact ay|((repeat apply Exists.intro);exact⟨ay,rfl⟩)
      case measure=>simp[intOf];omega
     ·have a0:(r3==0)=false:=(by simpa using P);have ed:w.heap.size<=w3.heap.size:=ar0 E.size T.size;have og:=fun q hq=>(j.cm (g:=q) hq).1;have oM:=ck E T;clear hB O j F6 G eY hd l D T F P;go_wp2_with(at_builtin;(refine mQ _ _ 51 ⟨x.code,x.amount⟩ _ 24 _ ll underlying51 jv dB (by omega) rfl (kO _) (by omega) (by omega) ed (by rfl) (by rfl) (by rfl) (by rfl) (by simp) (by rfl) ?_);intro v2 Q cI dS);have EJ:GenE B (C++[⟨x.code,x.amount⟩]):=by
       intro y hy;rcases asf.1 hy with h1|h1
       ·exact jl y h1
       ·simp at h1;subst h1;exact⟨VN,by show-600000<x.amount;omega,I⟩
      go_roundw
      case rel=>
       have ay:∃(k':Nat) (z:List Elem),k'<=n/\Value.int .i64 ((k:Int)-1)=.int .i64 k'/\z.length+k'<=n/\GenE B z/\Own aQ 2 69 Q w.heap.size v2 z/\aX Q b (M+1+4*(n-k'))/\w.grownBy Q (some b):=
        ⟨k-1,_,by omega,by go_num,by simp;omega,EJ,cI,(iF.grown dS (fun q e=>by have:=og q e;omega)).mono (by omega),Cf oM dS (fun q e=>.inl (og q e))⟩
       first|exact ay|((repeat apply Exists.intro);exact⟨ay,rfl⟩)
      case measure=>simp[intOf];omega
   ·go_wp2_with fail;go_ret;exact⟨_,C,rfl,jl,by omega,j,G.mono (by omega),E⟩
  ·go_wp2_with fail;go_ret;exact⟨_,C,rfl,jl,by omega,j,G.mono (by omega),E⟩
