/- Conditions: as stated. -/
import Derived.Test.YtlhkojcmcmkmaaaGreatSG33e
import Derived.Test.YtlhkojcmcmkmaaaGreatSG33g
namespace Go.Proofs.YtlhkojcmcmkmaaaGreat
open Go.Proofs.Tryz
open Go.RowKit
theorem Ph.alf{k:Nat}{ym:dD}(hy:Ph k ym)(l:k<=3):Kw ym.t:=by
 have n:=hy.fg;have e:=hy.len;refine⟨?_,?_,?_,?_,hy.inc.1,?_,?_,?_,hy.taken.valid⟩
 ·show 0<=ym.az;omega
 ·show ym.az<=53;omega
 ·show(ym.ins.length:Int)=ym.az;omega
 ·intro x j;have:=hy.ins x j;omega
 ·show ym.ax<=ym.az*1000000000;have:=hy.inc.2;omega
 ·show-(ym.az*1000000000)<=ym.aN;have:=hy.wh.1;omega
 ·show ym.aN<=ym.az*1000000000;have:=hy.wh.2;omega
theorem alh:∀c∈CQ,bK c=true:=by decide+kernel
theorem GenE.ali{e:List cO}{es:List Elem}(h:GenE e es)(j:pI 4 e):∀x∈es,x.code.size<=maxLen:=fun x l=>by obtain⟨⟨y,n,p⟩,_⟩:=h x l;rw[p];exact Hl (alh _ (j.ok y n).code)
theorem Pg.kinds{rm:cY}(h:Pg rm):∀v∈rm.ws,v.kind=1\/v.kind=2:=fun v e=>by
 rcases(h.ws.ok v e).kind with h|h
 ·exact .inl h
 ·exact .inr h.1
theorem alj{rm:cY}{ym:dD}{k:Nat}{es:List Elem}{c:ByteArray}(e:Pg rm)(hy:Ph k ym)(z:k<=2)(j:GenE rm.ws es)(l:es.length<=3)(n:c.size<=maxLen)(p:∃v,dJ rm.ws c=some v/\v.kind=1):jz rm.t ym.t es c:=by
 have B:=hy.fg;have r:=hy.len;refine⟨e.ok,e.m23,j,l,j.ali e.ws,hy.alf (by omega),?_,?_,?_,?_,?_,p,n,e.fl,e.lv,fun b u=>(e.ok.fT.au.aam b u).2⟩
 ·show ym.az<rm.count;have:=e.cnt;omega
 ·show ym.ins.length<=4;omega
 ·show ym.ax<=2400000;have:=hy.inc.2;omega
 ·show-1000000<=ym.aN/\ym.aN<=1000000;have:=hy.wh;omega
 ·intro v y;exact(hy.ins v y).2
theorem aP.V2{F C:World->Prop}(_:Inhabited (aP C F)){g:Nat}{t:TypeId}{cs:Array Value}(h:∀w',C w'->ah w' g t cs):∀w',(∃p:aP C F,w'=p.w')->ah w' g t cs:=fun _ ⟨p,e⟩=>e▸h _ p.h
structure G33(k:Nat)(rm:cY)(ym:dD)(es:List Elem):Prop where
 r:Pg rm
 y:Ph k ym
 k2:k<=2
 e:GenE rm.ws es
 el:es.length<=2
theorem G33.gr{k:Nat}{rm:cY}{ym:dD}{es:List Elem}(h:G33 k rm ym es){c:ByteArray}(j:c.size<=maxLen)(l:∃v,dJ rm.ws c=some v/\v.kind=1):jz rm.t ym.t es c:=alj h.r h.y h.k2 h.e (by have:=h.el;omega) j l
structure nh(w:World)(g1 g2:Nat)(rm:cY)(ym:dD)(E:Option Addr)(es:List Elem)(M:Nat)(W:World):Prop where
 R:ah W g1 45 (jX rm)
 Y:ah W g2 53 (lD ym)
 r:CM rm W (w.heap.size+1)
 y:CP ym W (w.heap.size+1)
 e:gH aQ 2 W (w.heap.size+1) E es
 d:aX W w.heap.size M
 aW:Below w.heap.size w W
 n1:w.heap.size<g1
 n2:w.heap.size<g2
section
variable {w W W':World}{g1 g2:Nat}{rm:cY}{ym:dD}{E E':Option Addr}{es es':List Elem}{M M' k:Nat}{c:ByteArray}
theorem CM.aas{m:cY}{w:World}{b j:Nat}(h:CM m w b)(e:j<=b):CM m w j:=⟨h.ws.weaken e,h.ss.weaken e,⟨h.tm.au.weaken e,h.tm.rows.weaken e⟩⟩
theorem CP.aas{m:dD}{w:World}{b e:Nat}(h:CP m w b)(j:e<=b):CP m w e:=⟨h.ins.weaken j,h.taken.weaken j⟩
theorem CM.R6{m:cY}{w w':World}{b:Nat}(h:CM m w b)(e:Below w.heap.size w w'):CM m w' b:=⟨h.ws.aa e,h.ss.aa e,⟨h.tm.au.aa e,h.tm.rows.aa e⟩⟩
theorem CP.R6{m:dD}{w w':World}{b:Nat}(h:CP m w b)(e:Below w.heap.size w w'):CP m w' b:=⟨h.ins.aa e,h.taken.aa e⟩
theorem nh.mk0{j l:Nat}(p:CM rm W j)(hy:CP ym W l)(hd:aX W w.heap.size M)(r:Below w.heap.size w W)(u:w.heap.size<j)(y:w.heap.size<l)(z:w.heap.size<W.heap.size):
  nh w W.heap.size (W.heap.size+1) rm ym none ([]:List Elem) M ((W.alloc (.cells (jX rm) 45)).alloc (.cells (lD ym) 53)):=by
 have e:=ej (bD W (.cells (jX rm) 45)) (.cells (lD ym) 53);have n:=ah.new (W.alloc (.cells (jX rm) 45)) 53 (lD ym);rw[arU]at n;exact⟨(ah.new W _ _).alloc _,n,(p.aas u).R6 e,(hy.aas y).R6 e,gH.cL _ _,hd.aW e,aB r e,z,by omega⟩
theorem nh.sz(h:nh w g1 g2 rm ym E es M W):w.heap.size+1<=W.heap.size:=h.d.lt
theorem nh.aa(h:nh w g1 g2 rm ym E es M W)(j:Below W.heap.size W W'):nh w g1 g2 rm ym E es M W':=
 ⟨h.R.aa j,h.Y.aa j,h.r.R6 j,h.y.R6 j,h.e.aa j,h.d.aW j,aB h.aW j,h.n1,h.n2⟩
theorem nh.Dv(h:nh w g1 g2 rm ym E es M W)(hd:aX W' w.heap.size M')(j:W.grownBy W' (some w.heap.size)):nh w g1 g2 rm ym E es M' W':=
 have l:=h.n1;have n:=h.n2
 ⟨h.R.grown j (by intro e;injection e;omega),h.Y.grown j (by intro e;injection e;omega),h.r.grown j (fun q e=>by injection e;omega),⟨h.y.ins.grown j (fun q e=>by injection e;omega),h.y.taken.grown j (fun q e=>by injection e;omega)⟩,h.e.grown j (fun q e=>by injection e;omega),hd,kN h.aW j (fun q e=>by injection e;omega),l,n⟩
theorem nh.els(h:nh w g1 g2 rm ym E es M W)(e:gH aQ 2 W (w.heap.size+1) E' es'):nh w g1 g2 rm ym E' es' M W:=⟨h.R,h.Y,h.r,h.y,e,h.d,h.aW,h.n1,h.n2⟩
theorem nh.yin(h:nh w g1 g2 rm ym E es M W):ym.In W:=⟨h.y.ins.sl,h.y.taken.sl⟩
theorem nh.solve(h:nh w g1 g2 rm ym E es M W)(j:G33 k rm ym es)(p:c.size<=maxLen)(l:Nat)(t:Int):
  Calls prog 42 #[.agg (jX rm),.agg (lD ym),.slice E es.length l,.string c,.int .i64 t] W fun e w'=>(∃a n,e=.returned (.tuple #[.int .i64 a,.int .i64 n])/\Ht rm.t ym.t es c t a n)/\Below W.heap.size W w':=
 aef rm ym E l es c t W h.r.Fv h.yin h.e.sl j.r.ok (by have:=j.r.m23;omega) j.r.fl j.r.lv j.r.kinds (fun u=>j.gr p u)
end
