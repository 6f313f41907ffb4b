/- Conditions: as stated. -/
import Derived.Test.YtlhkojcmcmkmaaaGreatKG33e
import Derived.Test.YtlhkojcmcmkmaaaGreatKG33g
namespace Go.Proofs.YtlhkojcmcmkmaaaGreat
open Go.Proofs.Tryz
open Go.RowKit
theorem Vu.akS{k:Nat}{ym:dR}(hy:Vu k ym)(l:k<=3):J7 ym.t:=by
 have n:=hy.fe;have e:=hy.len;refine⟨?_,?_,?_,?_,hy.inc.1,?_,?_,?_,hy.taken.valid⟩
 ·show 0<=ym.ay;omega
 ·show ym.ay<=53;omega
 ·show(ym.ins.length:Int)=ym.ay;omega
 ·intro x j;have:=hy.ins x j;omega
 ·show ym.aw<=ym.ay*1000000000;have:=hy.inc.2;omega
 ·show-(ym.ay*1000000000)<=ym.aO;have:=hy.wh.1;omega
 ·show ym.aO<=ym.ay*1000000000;have:=hy.wh.2;omega
theorem akT:∀c∈Cf,bI c=true:=by decide+kernel
theorem GenE.akU{e:List cI}{es:List Elem}(h:GenE e es)(j:pG 4 e):∀x∈es,x.code.size<=maxLen:=fun x l=>by obtain⟨⟨y,n,p⟩,_⟩:=h x l;rw[p];exact GW (akT _ (j.ok y n).code)
theorem Kd{rm:dN}{ym:dR}{k:Nat}{es:List Elem}{c:ByteArray}{n:Int}(e:CC rm.t)(hy:Vu k ym)(j:k<=3)(l:∀x∈es,x.code.size<=maxLen)(p:c.size<=maxLen):nN (mD rm pQ ym [] true (es++[⟨c,n⟩])):=by
 refine⟨e,ack,hy.akS j,⟨acm,(by show(0:Nat)<=16;omega),nofun⟩,nofun,fun x r=>?_⟩;rcases arE.1 r with h|h
 ·exact l x h
 ·rw[arQ]at h;subst h;exact p
structure mf(w:World)(g1 g2:Nat)(rm:dN)(ym:dR)(E:Option Addr)(es:List Elem)(M:Nat)(W:World):Prop where
 R:ah W g1 45 (ng rm)
 Y:ah W g2 53 (oK ym)
 r:CT rm W (w.heap.size+1)
 y:FT ym W (w.heap.size+1)
 e:fh aN 2 W (w.heap.size+1) E es
 d:aX W w.heap.size M
 aU:Below w.heap.size w W
 n1:w.heap.size<g1
 n2:w.heap.size<g2
section
variable {w W W':World}{g1 g2:Nat}{rm:dN}{ym:dR}{E E':Option Addr}{es es':List Elem}{M M' k:Nat}{c:ByteArray}
theorem CT.ZZ{m:dN}{w:World}{b j:Nat}(h:CT m w b)(e:j<=b):CT m w j:=⟨h.ws.weaken e,h.ss.weaken e,⟨h.tm.aA.weaken e,h.tm.rows.weaken e⟩⟩
theorem FT.ZZ{m:dR}{w:World}{b e:Nat}(h:FT m w b)(j:e<=b):FT m w e:=⟨h.ins.weaken j,h.taken.weaken j⟩
theorem CT.OM{m:dN}{w w':World}{b:Nat}(h:CT m w b)(e:Below w.heap.size w w'):CT m w' b:=⟨h.ws.aa e,h.ss.aa e,⟨h.tm.aA.aa e,h.tm.rows.aa e⟩⟩
theorem FT.OM{m:dR}{w w':World}{b:Nat}(h:FT m w b)(e:Below w.heap.size w w'):FT m w' b:=⟨h.ins.aa e,h.taken.aa e⟩
theorem mf.sz(h:mf w g1 g2 rm ym E es M W):w.heap.size+1<=W.heap.size:=h.d.lt
theorem mf.aa(h:mf w g1 g2 rm ym E es M W)(j:Below W.heap.size W W'):mf w g1 g2 rm ym E es M W':=
 ⟨h.R.aa j,h.Y.aa j,h.r.OM j,h.y.OM j,h.e.aa j,h.d.aU j,aB h.aU j,h.n1,h.n2⟩
theorem mf.FU(h:mf w g1 g2 rm ym E es M W)(hd:aX W' w.heap.size M')(j:W.grownBy W' (some w.heap.size)):mf w g1 g2 rm ym E es M' W':=
 have l:=h.n1;have n:=h.n2
 ⟨h.R.grown j (by intro e;injection e;omega),h.Y.grown j (by intro e;injection e;omega),h.r.grown j (fun q e=>by injection e;omega),⟨h.y.ins.grown j (fun q e=>by injection e;omega),h.y.taken.grown j (fun q e=>by injection e;omega)⟩,h.e.grown j (fun q e=>by injection e;omega),hd,jN h.aU j (fun q e=>by injection e;omega),l,n⟩
theorem mf.els(h:mf w g1 g2 rm ym E es M W)(e:fh aN 2 W (w.heap.size+1) E' es'):mf w g1 g2 rm ym E' es' M W:=⟨h.R,h.Y,h.r,h.y,e,h.d,h.aU,h.n1,h.n2⟩
theorem AY.OO{j:Type}{e:j->List Value}{k:Nat}{w:World}{l hi:Nat}{A:Option Addr}{n:List j}(h:AY e k w l hi A n):fh e k w l A n:=⟨h.D8,h.fr⟩
theorem mf.row{u B:World}{v:Value}{zs:List Elem}(h:mf w g1 g2 rm ym E es M W)(l:W.grownBy u (some w.heap.size))(hd:aX u w.heap.size M')(D:Own aN 2 69 u W.heap.size v zs)(j:u.grownBy B v.ownBlock):mf w g1 g2 rm ym none ([]:List Elem) M' B:=by
 have F:=h.sz;have G:=h.n1;have I:=h.n2;have J:=h.R.lt;have K:=h.Y.lt;have z:∀q,v.ownBlock=some q->W.heap.size<=q:=fun q e=>(D.cg e).1;have n:∀q,some w.heap.size=some q->q<w.heap.size+1\/W.heap.size<=q:=fun q e=>.inl (by injection e;omega);have p:∀q,v.ownBlock=some q->q<w.heap.size+1\/W.heap.size<=q:=fun q e=>.inr (z q e);have C:∀{g:Nat},g<W.heap.size->some g≠v.ownBlock:=fun{g} j e=>by have:=z g e.symm;omega
 exact⟨(h.R.grown l (by intro e;injection e;omega)).grown j (C J),(h.Y.grown l (by intro e;injection e;omega)).grown j (C K),
  ⟨((h.r.ws.Mj.grown l n).grown j p).OO,((h.r.ss.Mj.grown l n).grown j p).OO,⟨((h.r.tm.aA.Mj.grown l n).grown j p).OO,((h.r.tm.rows.Mj.grown l n).grown j p).OO⟩⟩,
  ⟨((h.y.ins.Mj.grown l n).grown j p).OO,((h.y.taken.Mj.grown l n).grown j p).OO⟩,fh.cK _ _,hd.grown j (fun q e=>by have:=z q e;omega),
  jN (jN h.aU l (fun q e=>by injection e;omega)) j (fun q e=>by have:=z q e;omega),G,I⟩
theorem mf.Ke(h:mf w g1 g2 rm ym E es M W):ym.In W:=⟨h.y.ins.sl,h.y.taken.sl⟩
end
