/- Conditions: as stated. -/
import Derived.Test.YtlhkojcmcmkmaaaGreatKGenR
set_option maxHeartbeats 2000000
namespace Go.Proofs.YtlhkojcmcmkmaaaGreat
open Go.Proofs.Tryz
open Go.RowKit
structure aad(m:iL)(w:World)(base:Nat):Prop where
 ds:fh j6 6 w base m.Ad m.ds
 os:fh Iu 5 w base m.Ao m.os
 es:fh AL 2 w base m.Ae m.es
 ins:∀e∈m.es,fh encI 1 w base e.A e.l
theorem aad.grown{m:iL}{w w':World}{base:Nat}{row:Option Nat}(h:aad m w base)(j:w.grownBy w' row)(hr:∀g,row=some g->g<base):aad m w' base:=⟨h.ds.grown j hr,h.os.grown j hr,h.es.grown j hr,fun e l=>(h.ins e l).grown j hr⟩
def GenE(e:List cI)(j:List Elem):Prop:=∀x∈j,(∃y∈e,x.code=y.code)/\-600000<x.amount/\x.amount<600000
def KD(wr:World)(b M:Nat)(j:List cI)(s:Value)(e:World):Prop:=∃(g:Nat) (x:Elem),s=.pointer (some ⟨g,0,none⟩)/\wr.heap.size<=g/\ah e g 69 #[.string x.code,.int .i64 x.amount]/\aX e b M/\wr.grownBy e (some b)/\
 (∃y∈j,x.code=y.code)/\0<=x.amount/\x.amount<600000
theorem KD.two{wr W:World}{b M g j:Nat}{n:List cI}{u:Array Value}{r:Int}(y:u.size=2)(B:ah W g 69 u)(z:wr.heap.size<=g)(J:b<wr.heap.size)(hd:aX W b M)(C:wr.grownBy W (some b))(D:j<n.length)(E:0<=r)(F:r<600000):
  KD wr b M n (.pointer (some ⟨g,0,none⟩)) ((W.setCell ⟨g,0,none⟩ (.string n[j].code)).setCell ⟨g,1,none⟩ (.int .i64 r)):=by
 refine⟨g,⟨n[j].code,r⟩,rfl,z,?_,?_,?_,⟨n[j],arc D,rfl⟩,E,F⟩
 ·have G:=(B.ez 0 (.string n[j].code)).ez 1 (.int .i64 r);obtain⟨l⟩:=u
  match l,y with
  |[a,c],_=>simpa using G
 ·have I:W.grownBy ((W.setCell ⟨g,0,none⟩ (.string n[j].code)).setCell ⟨g,1,none⟩ (.int .i64 r)) (some g):=bk (p:=⟨g,1,none⟩) (bk (p:=⟨g,0,none⟩) (ft _ _) (.inl rfl) _) (.inl rfl) _;exact hd.grown I (fun k e=>by injection e;omega)
 ·exact bk (p:=⟨g,1,none⟩) (bk (p:=⟨g,0,none⟩) C (.inr z) _) (.inr z) _
theorem KD.new{wr W:World}{b M g j:Nat}{e:List cI}{r:Int}(n:g=W.heap.size)(hd:aX W b M)(l:wr.grownBy W (some b))(p:j<e.length)(u:0<=r)(y:r<600000):
  KD wr b M e (.pointer (some ⟨g,0,none⟩)) (W.alloc (.cells #[.string e[j].code,.int .i64 r] 69)):=by
 subst n;exact⟨W.heap.size,⟨e[j].code,r⟩,rfl,l.size,ah.new _ _ _,hd.alloc _,fI l _,⟨e[j],arc p,rfl⟩,u,y⟩
theorem ale(b M:Nat)(A:Option Addr)(B:List cI)(c n:Nat)(w:World)(hM:M<=800000)(hn:1<=n)(oo:n<=100)(hd:aX w b M)(hs:aj gu 6 w w.heap.size A B)(hA:∀a,A=some a->a.block≠b)(hl:B.length<=100):
  Calls prog 28 #[.pointer (some ⟨b,0,none⟩),.slice A B.length c,.int .i64 n] w fun e w'=>∃v C,e=.returned v/\GenE B C/\C.length<=n/\Own aN 2 69 w' w.heap.size v C/\aX w' b (M+1+4*n)/\w.grownBy w' (some b):=by
 have aA:=hd.lt;go_enter func28,ntmps28;go_wp2_with fail;refine(jv b M _ _ (by omega) (by omega) (by omega) hd).mono ?_;rintro e w0 ⟨r0,rfl,ad,aD,eQ,F⟩;obtain⟨k0,rfl⟩:=asH ad;go_wp2_with fail
 go_loopw [7,8] (fun v i wr=>∃(k:Nat) (C:List Elem),k<=n/\i=.int .i64 k/\C.length+k<=n/\GenE B C/\Own aN 2 69 wr w.heap.size v C/\aX wr b (M+1+4*(n-k))/\w.grownBy wr (some b)) (fun _ i _=>(intOf i).toNat)
 case atStart=>exact⟨k0,[],by omega,rfl,by simp;omega,by simp[GenE],Own.cK _ _,eQ.mono (by omega),F⟩
 case round=>
  obtain⟨k,C,hk,rfl,az,iW,j,G,E⟩:=hrel;have U:=G.lt;by_cases fM:0<k
  ·by_cases ae:0<B.length
   ·have V:B≠[]:=asW.1 ae;obtain⟨R,X,rfl,VC,Y⟩:=hs V;have Z:=hA _ rfl;have ab:=aq6 Y;clear Y hs hA V;go_upto_region 5 with fail
    go_cut [9] (fun s9 wx=>KD wr b (M+1+4*(n-k)+1+2) B s9 wx)
    case first=>
     go_region_with (first|(go_at_call 34;(refine(jv b (M+1+4*(n-k)) _ _ (by omega) (by omega) (by omega) (by first|exact G|exact G.alloc _)).mono ?_;rintro e S ⟨r1,rfl,af,aE,bP,r⟩;have RH:=bP.lt;obtain⟨j1,rfl⟩:=asH af;have Mu:j1<B.length:=(by omega);have l:w.grownBy S (some b):=(by first|exact ck (QW E) r|exact ck (QW (fI E _)) r);have I:=(asj (a:=⟨R,X+j1*6+0,none⟩) (l.block R VC (fun e=>Z (by injection e)))).trans (ab.out j1 _ (aro Mu) 0 _ rfl);simp only[ara]at I;have aJ:R<S.heap.size:=arY VC l.size;(try(have RI:ah S wr.heap.size 69 #[.string ⟨#[]⟩,.int .i64 0]:=ah.grown (w:=(wr.alloc _).drew) (ah.new wr _ _) r (by intro e;injection e;omega);have ai:=RI.cell 0;have al:=RI.cell 1;have aO:=RI.frozen 0;have aP:=RI.frozen 1;simp only[ak,aq,ar]at ai al))))|(go_at_call 41;refine(Mt b (M+1+4*(n-k)+1) _ (by omega) (by first|exact bP|exact bP.alloc _)).mono ?_;rintro e w2 ⟨r2,rfl,J,K,dy,u⟩;have BD:w.grownBy w2 (some b):=(by first|exact ck l u|exact ck (fI l _) u);have am:=(asj (a:=⟨R,X+j1*6+0,none⟩) (BD.block R VC (fun e=>Z (by injection e)))).trans (ab.out j1 _ (aro Mu) 0 _ rfl);simp only[ara]at am;have aS:R<w2.heap.size:=arY VC BD.size;(try(have eX:ah w2 S.heap.size 69 #[.string ⟨#[]⟩,.int .i64 0]:=ah.grown (w:=(S.alloc _)) (ah.new S _ _) u (by intro e;injection e;omega);have L:=eX.cell 0;have N:=eX.cell 1;have an:=eX.frozen 0;have ao:=eX.frozen 1;simp only[ak,aq,ar]at L N));(try(have KE:ah w2 wr.heap.size 69 #[.string ⟨#[]⟩,.int .i64 0]:=RI.grown u (by intro e;injection e;omega);have L:=KE.cell 0;have N:=KE.cell 1;have an:=KE.frozen 0;have ao:=KE.frozen 1;simp only[ak,aq,ar]at L N))))
     all_goals(go_wp2_with fail;go_meet;first|exact KD.new rfl dy (by first|exact ck (ck (QW (ft _ _)) r) u) Mu J K|exact KD.two rfl eX (by have:=r.size;simp at this;omega) U dy (by exact ck (fI (ck (QW (ft _ _)) r) _) u) Mu J K|exact KD.two rfl KE (aq7 _) U dy (by exact ck (ck (QW (fI (ft _ _) _)) r) u) Mu J K)
    case rest=>
     obtain⟨g,x,rfl,ap,hB,Fv,l,Vj,aT,I⟩:=hcut;have aV:g≠b:=(by omega);go_wp2_with fail;refine(jv b (M+1+4*(n-k)+3) _ _ (by omega) (by omega) (by omega) Fv).mono ?_;rintro e w3 ⟨r3,rfl,aW,aZ,ig,D⟩;have O:=hB.grown D (by intro e;injection e;omega);have d0:=O.cell 0;have d1:=O.cell 1;have f1:=O.frozen 1;have LA:=O.lt;simp only[ak,aq,ar]at d0 d1;have T:wr.grownBy w3 (some b):=ck l D;have jd:=j.kept T (by intro g e;injection e;omega);have av:∀q,u7.ownBlock=some q->q≠g:=fun q hq=>by have:=(j.cg hq).2;omega
     by_cases P:r3=0
     ·subst P;have e1:=O.ez 1 (.int .i64 (-x.amount));simp at e1;have RJ:=e1.cell 0;have ay:=e1.cell 1;simp only[ak,aq,ar]at RJ ay;have eV:=jd.setCell (p:=⟨g,1,none⟩) av (.int .i64 (-x.amount));have FX:=bk (p:=⟨g,1,none⟩) T (.inr ap) (.int .i64 (-x.amount));have dT:w.heap.size<=(w3.setCell ⟨g,1,none⟩ (.int .i64 (-x.amount))).heap.size:=arq E.size FX.size;have nH:=fun q hq=>(j.cg (g:=q) hq).1;have iG:aX (w3.setCell ⟨g,1,none⟩ (.int .i64 (-x.amount))) b (M+1+4*(n-k)+3+1):=ig.grown (bk (ft _ _) (.inl rfl) _:w3.grownBy _ (some g)) (fun q e=>by injection e;omega);clear hB O j jd Fv ig G eQ hd l D T F e1;go_wp2_with(at_builtin;(refine my _ _ 51 ⟨x.code,-x.amount⟩ _ 24 _ kF underlying51 eV dt (by omega) rfl (kn _) (by omega) (by omega) dT (by rfl) (by rfl) (by rfl) (by rfl) (by simp) (by rfl) ?_);intro v2 Q cE dW);have Ec:GenE B (C++[⟨x.code,-x.amount⟩]):=by
       intro y hy;rcases arE.1 hy with h1|h1
       ·exact iW y h1
       ·simp at h1;subst h1;exact⟨Vj,by show-600000< -x.amount;omega,by show-x.amount<600000;omega⟩
      go_roundw
      case rel=>
       have ax:∃(k':Nat) (z:List Elem),k'<=n/\Value.int .i64 ((k:Int)-1)=.int .i64 k'/\z.length+k'<=n/\GenE B z/\Own aN 2 69 Q w.heap.size v2 z/\aX Q b (M+1+4*(n-k'))/\w.grownBy Q (some b):=
        ⟨k-1,_,by omega,by go_num,by simp;omega,Ec,cE,(iG.grown dW (fun q e=>by have:=nH q e;omega)).mono (by omega),DW (ck E FX) dW (fun q e=>.inl (nH q e))⟩
       first|exact ax|((repeat apply Exists.intro);exact⟨ax,rfl⟩)
      case measure=>simp[intOf];omega
     ·have a0:(r3==0)=false:=(by simpa using P);have dT:w.heap.size<=w3.heap.size:=arq E.size T.size;have nH:=fun q hq=>(j.cg (g:=q) hq).1;have zn:=ck E T;clear hB O j Fv G eQ hd l D T F P;go_wp2_with(at_builtin;(refine my _ _ 51 ⟨x.code,x.amount⟩ _ 24 _ kF underlying51 jd dt (by omega) rfl (kn _) (by omega) (by omega) dT (by rfl) (by rfl) (by rfl) (by rfl) (by simp) (by rfl) ?_);intro v2 Q cE dW);have Ec:GenE B (C++[⟨x.code,x.amount⟩]):=by
       intro y hy;rcases arE.1 hy with h1|h1
       ·exact iW y h1
       ·simp at h1;subst h1;exact⟨Vj,by show-600000<x.amount;omega,I⟩
      go_roundw
      case rel=>
       have ax:∃(k':Nat) (z:List Elem),k'<=n/\Value.int .i64 ((k:Int)-1)=.int .i64 k'/\z.length+k'<=n/\GenE B z/\Own aN 2 69 Q w.heap.size v2 z/\aX Q b (M+1+4*(n-k'))/\w.grownBy Q (some b):=
        ⟨k-1,_,by omega,by go_num,by simp;omega,Ec,cE,(ig.grown dW (fun q e=>by have:=nH q e;omega)).mono (by omega),DW zn dW (fun q e=>.inl (nH q e))⟩
       first|exact ax|((repeat apply Exists.intro);exact⟨ax,rfl⟩)
      case measure=>simp[intOf];omega
   ·go_wp2_with fail;go_ret;exact⟨_,C,rfl,iW,by omega,j,G.mono (by omega),E⟩
  ·go_wp2_with fail;go_ret;exact⟨_,C,rfl,iW,by omega,j,G.mono (by omega),E⟩
