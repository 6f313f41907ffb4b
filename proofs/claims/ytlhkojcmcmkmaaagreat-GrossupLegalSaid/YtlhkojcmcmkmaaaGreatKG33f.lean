/- Conditions: as stated. -/
import Derived.Test.YtlhkojcmcmkmaaaGreatKG33b
namespace Go.Proofs.YtlhkojcmcmkmaaaGreat
open Go.Proofs.Tryz
open Go.RowKit
def ZX(cur:Array Value)(e:List cm):Prop:=∀i x,e[i]?=some x->∀j v,(EO x)[j]?=some v->cur[i*8+j]?=some v
theorem ZX.slice{cur:Array Value}{xs:List cm}(h:ZX cur xs){W:World}{g B:Nat}(e:ah W g 123 cur)(l:g<B):aj EO 8 W B (some ⟨g,0,none⟩) xs:=fun _=>
 ⟨g,0,rfl,l,fun i x hi j v n=>by rw[show(0:Nat)+i*8+j=i*8+j by omega,e.cell];exact h i x hi j v n⟩
structure ZY(w:World)(b g gs h lo hi:Nat)(R:Array Value)(Aw:Option Addr)(ws:List cI)(Ab:Option Addr)(aA:List cB)(ss:List cm)(cur:Array Value)(M:Nat)(W:World):Prop where
 r:ah W w.heap.size 45 #[.slice none 0 0,.slice none 0 0,.int .i64 0,.slice none 0 0,.int .i64 0,.int .i64 0,.int .i64 0,.int .i64 0,.slice none 0 0,.int .i64 0,.int .i64 0,.int .i64 0,.int .i64 0,.int .i64 0,.int .i64 0,.int .i64 0]
 x:ah W g 45 R
 s:ss≠[]->ah W gs 123 cur/\gs<g
 c:ZX cur ss
 fw:AY gu 6 W (w.heap.size+1) h Aw ws
 l:AY gG 2 W lo hi Ab aA
 d:aX W b M
 G:w.grownBy W (some b)
 n:b<w.heap.size/\w.heap.size<h/\h<=gs/\gs<=g/\g<lo
section
variable {w W W':World}{b g gs h lo hi:Nat}{R:Array Value}{Aw:Option Addr}{ws:List cI}{Ab:Option Addr}{aA:List cB}{ss:List cm}{cur:Array Value}{M M':Nat}
theorem AY.aa{l:Type}{j:l->List Value}{k:Nat}{w w':World}{lo hi:Nat}{A:Option Addr}{n:List l}(h:AY j k w lo hi A n)(p:Below w.heap.size w w'):AY j k w' lo hi A n:=h.grown (LY p none) (fun q e=>by cases e)
theorem ZY.aa(H:ZY w b g gs h lo hi R Aw ws Ab aA ss cur M W)(e:Below W.heap.size W W'):ZY w b g gs h lo hi R Aw ws Ab aA ss cur M W':=
 ⟨H.r.aa e,H.x.aa e,fun j=>⟨(H.s j).1.aa e,(H.s j).2⟩,H.c,H.fw.aa e,H.l.aa e,H.d.aU e,dx H.G e,H.n⟩
end
