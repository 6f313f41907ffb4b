/- Joined texts: YrS. Conditions: as stated. -/
import Derived.Test.YtjncpgbhokjbfaaGreatJ13
import Derived.Test.YtjncpgbhokjbfaaGreatJ15
import Derived.Test.YtjncpgbhokjbfaaGreatJ29
namespace Go.Proofs.YtjncpgbhokjbfaaGreat
open Go.RowKit
structure YSt (W:World) (cs:Array Value) (v0:Value) (ls:List LineT) (x:Int) (v:Option (Value × List Int)) (o n : Option Nat) (w:World) : Prop where
 C:Below W.heap.size W w
 S:Blk w W.heap.size 41 cs
 L:Own encL 3 53 w (W.heap.size+1) v0 ls
 V:∀ r l,v = some (r,l)→Own encI 1 3 w (W.heap.size+1) r l∧∀ q,r.ownBlock = some q→v0.ownBlock ≠ some q∧o ≠ some q∧n ≠ some q
 O:∀ g,o = some g→Blk w g 3 #[.int .i64 x]
 N:∀ g,n = some g→Blk w g 81 #[.int .i64 0,.int .i64 0,.int .i64 0,.slice none 0 0,.slice none 0 0]∧W.heap.size < g∧v0.ownBlock ≠ some g
def yput (w:World) (g:Nat) (a b c d e : Value) : World:=((((w.setCell ⟨g,0,none⟩ a).setCell ⟨g,1,none⟩ b).setCell ⟨g,2,none⟩ c).setCell ⟨g,3,none⟩ d).setCell ⟨g,4,none⟩ e
section
variable {W:World} {cs:Array Value} {v0:Value} {ls:List LineT} {x:Int} {v:Option (Value × List Int)} {o n:Option Nat} {w w':World}
theorem YSt.adv (h:YSt W cs v0 ls x v o n w) (hb:Below w.heap.size w w') : YSt W cs v0 ls x v o n w' :=
 ⟨bel_adv h.C hb,h.S.adv hb,h.L.adv hb,fun r l e=>⟨(h.V r l e).1.adv hb,(h.V r l e).2⟩,fun g e=>(h.O g e).adv hb,fun g e=>⟨(h.N g e).1.adv hb,(h.N g e).2⟩⟩
theorem YSt.base (h:YSt W cs v0 ls x v o n w) : W.heap.size+1≤w.heap.size:=h.S.lt
theorem YSt.own {r:Value} {l:List Int} (h:YSt W cs v0 ls x (some (r,l)) o n w) : Own encI 1 3 w (W.heap.size+1) r l:=(h.V r l rfl).1
theorem YSt.mkv (h:YSt W cs v0 ls x none o n w) : YSt W cs v0 ls x (some (.slice (some ⟨w.heap.size,0,none⟩) 0 0,[])) o n (w.alloc (.cells #[] 3)):=by
 have h2:=h.adv (below_new w (.cells #[] 3))
 refine ⟨h2.C,h2.S,h2.L,fun r l e=>?_,h2.O,h2.N⟩
 injection e with e
 injection e with e1 e2
 subst e1 e2
 refine ⟨Own.lit (base:=W.heap.size+1) encI_len w [] #[] 3 rfl (by simp) h.base,fun q hq=>?_⟩
 have hq:q = w.heap.size:=by injection hq with hq; exact hq.symm
 subst hq
 refine ⟨fun e=>?_,fun e=>?_,fun e=>?_⟩
 ·
  have:=(h.L.block_lt e).2; omega
 ·
  have:=(h.O _ e).lt; omega
 ·
  have:=(h.N _ e).1.lt; omega
theorem YSt.mko (h:YSt W cs v0 ls x v none n w) : YSt W cs v0 ls x v (some w.heap.size) n (w.alloc (.cells #[.int .i64 x] 3)):=by
 have h2:=h.adv (below_new w (.cells #[.int .i64 x] 3))
 refine ⟨h2.C,h2.S,h2.L,fun r l e=>⟨(h2.V r l e).1,fun q hq=>⟨((h2.V r l e).2 q hq).1,fun e'=>?_,((h2.V r l e).2 q hq).2.2⟩⟩,fun g e=>?_,h2.N⟩
 ·
  have:=((h.V r l e).1.block_lt hq).2
  injection e' with e'
  omega
 ·
  injection e with e
  subst e
  exact Blk.new _ _ _
theorem YSt.mkn (h:YSt W cs v0 ls x v o none w) : YSt W cs v0 ls x v o (some w.heap.size) (w.alloc (.cells #[.int .i64 0,.int .i64 0,.int .i64 0,.slice none 0 0,.slice none 0 0] 81)):=by
 have h2:=h.adv (below_new w (.cells #[.int .i64 0,.int .i64 0,.int .i64 0,.slice none 0 0,.slice none 0 0] 81))
 refine ⟨h2.C,h2.S,h2.L,fun r l e=>⟨(h2.V r l e).1,fun q hq=>⟨((h2.V r l e).2 q hq).1,((h2.V r l e).2 q hq).2.1,fun e'=>?_⟩⟩,h2.O,fun g e=>?_⟩
 ·
  have:=((h.V r l e).1.block_lt hq).2
  injection e' with e'
  omega
 ·
  injection e with e
  subst e
  exact ⟨Blk.new _ _ _,h.base,fun e=>by have:=(h.L.block_lt e).2; omega⟩
theorem YSt.app {r r' : Value} {l l' : List Int} (h:YSt W cs v0 ls x (some (r,l)) o n w) (hv:Own encI 1 3 w' (W.heap.size+1) r' l') (hg:w.grownBy w' r.ownBlock) (hvo:r'.ownBlock = r.ownBlock ∨ r'.ownBlock = some w.heap.size) : YSt W cs v0 ls x (some (r',l')) o n w':=by
 have hV:=h.V r l rfl
 have hN:∀ g,n = some g→some g ≠ r.ownBlock:=fun g e e'=>(hV.2 g e'.symm).2.2 e
 have hO:∀ g,o = some g→some g ≠ r.ownBlock:=fun g e e'=>(hV.2 g e'.symm).2.1 e
 refine ⟨bel_only h.C hg (fun q hq=>by have:=(hV.1.block_lt hq).1; omega),h.S.grown hg (fun e=>by have:=(hV.1.block_lt e.symm).1; omega),h.L.kept_ne hg (fun q hq e=>(hV.2 q e).1 hq),fun r2 l2 e=>?_,
  fun g e=>(h.O g e).grown hg (hO g e),fun g e=>⟨(h.N g e).1.grown hg (hN g e),(h.N g e).2⟩⟩
 injection e with e
 injection e with e1 e2
 subst e1 e2
 refine ⟨hv,fun q hq=>?_⟩
 rcases hvo with e | e
 ·
  exact hV.2 q (e ▸ hq)
 ·
  rw [e] at hq
  injection hq with hq
  subst hq
  refine ⟨fun e=>?_,fun e=>?_,fun e=>?_⟩
  ·
   have:=(h.L.block_lt e).2; omega
  ·
   have:=(h.O _ e).lt; omega
  ·
   have:=(h.N _ e).1.lt; omega
theorem YSt.dropo (h:YSt W cs v0 ls x v o n w) : YSt W cs v0 ls x v none n w :=
 ⟨h.C,h.S,h.L,fun r l e=>⟨(h.V r l e).1,fun q hq=>⟨((h.V r l e).2 q hq).1,nofun,((h.V r l e).2 q hq).2.2⟩⟩,nofun,h.N⟩
theorem YSt.vform {r:Value} {l:List Int} {m:Nat} (h:YSt W cs v0 ls x (some (r,l)) o n w) (hm:l.length = m) : ∃ A c,r = .slice A m c:=by
 obtain ⟨A,c,e,_⟩:=h.own.form encI_len
 exact ⟨A,c,hm ▸ e⟩
theorem YSt.nfacts {g:Nat} (h:YSt W cs v0 ls x v o (some g) w) : w.cell? ⟨g,0,none⟩ = some (.int .i64 0)∧w.cell? ⟨g,1,none⟩ = some (.int .i64 0)∧w.cell? ⟨g,2,none⟩ = some (.int .i64 0)∧w.cell? ⟨g,3,none⟩ = some (.slice none 0 0)∧w.cell? ⟨g,4,none⟩ = some (.slice none 0 0) ∧
  w.frozen? ⟨g,0,none⟩ = false∧w.frozen? ⟨g,1,none⟩ = false∧w.frozen? ⟨g,2,none⟩ = false∧w.frozen? ⟨g,3,none⟩ = false∧w.frozen? ⟨g,4,none⟩ = false∧g < w.heap.size:=by
 have hn:=(h.N g rfl).1
 exact ⟨hn.cell 0,hn.cell 1,hn.cell 2,hn.cell 3,hn.cell 4,hn.frozen 0,hn.frozen 1,hn.frozen 2,hn.frozen 3,hn.frozen 4,hn.lt⟩
theorem YSt.fin {b:BasesT} {legal p i wh : Int} {ins:List Int} {A At : Option Addr} {c tl ct g m : Nat} (h:YSt W #[.int .i64 b.g,.int .i64 b.c,.int .i64 b.t,.int .i64 b.i,.int .i64 b.a,.int .i64 legal,v0] v0 ls x (some (.slice A m c,ins)) o (some g) w) (hm:ins.length = m) :
  YCut W b legal ls p i wh ins At tl ct (.pointer (some ⟨g,0,none⟩)) (yput w g (.int .i64 p) (.int .i64 i) (.int .i64 wh) (.slice A m c) (.slice At tl ct)):=by
 subst hm
 have hN:=h.N g rfl
 have hg:=only_fill (g:=g) [.int .i64 p,.int .i64 i,.int .i64 wh,.slice A ins.length c,.slice At tl ct] 0 (only_refl w (some g))
 exact ⟨v0,g,A,c,rfl,h.S.grown hg (fun e=>by injection e; omega),h.L.kept_ne hg (fun q hq e=>by injection e with e; subst e; exact hN.2.2 hq),bel_only h.C hg (fun q hq=>by injection hq; omega),
  hN.1.fill [.int .i64 p,.int .i64 i,.int .i64 wh,.slice A ins.length c,.slice At tl ct] rfl,h.own.kept_ne hg (fun q hq e=>by injection e with e; subst e; exact ((h.V _ _ rfl).2 g hq).2.2 rfl),hN.2.1⟩
end
section
variable {P:Program} {ops:Array Oper} {md:Region.Mode} {C:World→Prop} {s:Nat}
theorem M5.mix_two {Q:Act→World→Prop} {n:Nat} {listed:Array Bool} {a:Act} {w:World} (i j : Nat) (hr:Region.ready md ops listed = [i,j]) (hne : [i,j].contains s = false)
  (h:∀ w',C w'→Below w.heap.size w w'→M3.stepM P ops C i (fun a1 w1=>C w1∧M5.wpMix P md ops C s Q n (listed.setIfInBounds i true) a1 w1) a w'∧M3.stepM P ops C j (fun a1 w1=>C w1∧M5.wpMix P md ops C s Q n (listed.setIfInBounds j true) a1 w1) a w') : M5.wpMix P md ops C s Q (n+1) listed a w :=
 M5.mix_many [i,j] hr hne rfl fun w' c b k hk=>by
  simp only [nqj,nqk,or_false] at hk
  rcases hk with rfl | rfl
  ·
   exact (h w' c b).1
  ·
   exact (h w' c b).2
theorem M5.mix_three {Q:Act→World→Prop} {n:Nat} {listed:Array Bool} {a:Act} {w:World} (i j l : Nat) (hr:Region.ready md ops listed = [i,j,l]) (hne : [i,j,l].contains s = false)
  (h:∀ w',C w'→Below w.heap.size w w'→M3.stepM P ops C i (fun a1 w1=>C w1∧M5.wpMix P md ops C s Q n (listed.setIfInBounds i true) a1 w1) a w'∧M3.stepM P ops C j (fun a1 w1=>C w1∧M5.wpMix P md ops C s Q n (listed.setIfInBounds j true) a1 w1) a w'∧M3.stepM P ops C l (fun a1 w1=>C w1∧M5.wpMix P md ops C s Q n (listed.setIfInBounds l true) a1 w1) a w') : M5.wpMix P md ops C s Q (n+1) listed a w :=
 M5.mix_many [i,j,l] hr hne rfl fun w' c b k hk=>by
  simp only [nqj,nqk,or_false] at hk
  rcases hk with rfl | rfl | rfl
  ·
   exact (h w' c b).1
  ·
   exact (h w' c b).2.1
  ·
   exact (h w' c b).2.2
theorem M5.share2 {A B : Type} {f:A→B→Act} {Q:Act→World→Prop} {n n0 : Nat} {listed l0 : Array Bool} {a0:Act} {w0:World} {H:A→B→World→Prop}
  (main:(∀ x0 x1 w l,l = listed→H x0 x1 w→M5.wpMix P md ops C s Q n l (f x0 x1) w)→M5.wpMix P md ops C s Q n0 l0 a0 w0) (T:∀ x0 x1 w,H x0 x1 w→M5.wpMix P md ops C s Q n listed (f x0 x1) w) : M5.wpMix P md ops C s Q n0 l0 a0 w0:=main fun _ _ _ _ e h=>e ▸ T _ _ _ h
theorem M5.share3 {A B D : Type} {f:A→B→D→Act} {Q:Act→World→Prop} {n n0 : Nat} {listed l0 : Array Bool} {a0:Act} {w0:World} {H:A→B→D→World→Prop}
  (main:(∀ x0 x1 x2 w l,l = listed→H x0 x1 x2 w→M5.wpMix P md ops C s Q n l (f x0 x1 x2) w)→M5.wpMix P md ops C s Q n0 l0 a0 w0) (T:∀ x0 x1 x2 w,H x0 x1 x2 w→M5.wpMix P md ops C s Q n listed (f x0 x1 x2) w) : M5.wpMix P md ops C s Q n0 l0 a0 w0:=main fun _ _ _ _ _ e h=>e ▸ T _ _ _ _ h
theorem M5.share4 {A B D E : Type} {f:A→B→D→E→Act} {Q:Act→World→Prop} {n n0 : Nat} {listed l0 : Array Bool} {a0:Act} {w0:World} {H:A→B→D→E→World→Prop}
  (main:(∀ x0 x1 x2 x3 w l,l = listed→H x0 x1 x2 x3 w→M5.wpMix P md ops C s Q n l (f x0 x1 x2 x3) w)→M5.wpMix P md ops C s Q n0 l0 a0 w0) (T:∀ x0 x1 x2 x3 w,H x0 x1 x2 x3 w→M5.wpMix P md ops C s Q n listed (f x0 x1 x2 x3) w) : M5.wpMix P md ops C s Q n0 l0 a0 w0:=main fun _ _ _ _ _ _ e h=>e ▸ T _ _ _ _ _ h
theorem M5.share6 {A B D E F G : Type} {f:A→B→D→E→F→G→Act} {Q:Act→World→Prop} {n n0 : Nat} {listed l0 : Array Bool} {a0:Act} {w0:World} {H:A→B→D→E→F→G→World→Prop}
  (main:(∀ x0 x1 x2 x3 x4 x5 w l,l = listed→H x0 x1 x2 x3 x4 x5 w→M5.wpMix P md ops C s Q n l (f x0 x1 x2 x3 x4 x5) w)→M5.wpMix P md ops C s Q n0 l0 a0 w0) (T:∀ x0 x1 x2 x3 x4 x5 w,H x0 x1 x2 x3 x4 x5 w→M5.wpMix P md ops C s Q n listed (f x0 x1 x2 x3 x4 x5) w) : M5.wpMix P md ops C s Q n0 l0 a0 w0:=main fun _ _ _ _ _ _ _ _ e h=>e ▸ T _ _ _ _ _ _ _ h
end
end Go.Proofs.YtjncpgbhokjbfaaGreat
