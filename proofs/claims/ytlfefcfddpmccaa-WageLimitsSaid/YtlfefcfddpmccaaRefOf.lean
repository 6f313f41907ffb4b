/- Contract of payrollref26.Of. Conditions: the slices' lengths fit an int, strings' lengths fit the model. -/
import Derived.Test.YtlfefcfddpmccaaRefSums
import Derived.Test.YtlfefcfddpmccaaWage2
namespace Go.Proofs.Ytlfefcfddpmccaa
open Go.RowKit

structure BasesT where
  g : Int
  c : Int
  t : Int
  i : Int
  a : Int
deriving DecidableEq
def encB (b : BasesT) : List Value := [.int .i64 b.g, .int .i64 b.c, .int .i64 b.t, .int .i64 b.i, .int .i64 b.a]
def zeroB : BasesT := ⟨0, 0, 0, 0, 0⟩
def addB (b : BasesT) (y : WageT) (n : Int) : BasesT := ⟨b.g + n, b.c + (if y.kind = 1 then n else 0), b.t + (if y.taxable then n else 0), b.i + (if y.insured then n else 0), b.a + (if y.attachable then n else 0)⟩
def stepB (ws : List WageT) (b : BasesT) (x : Elem) : BasesT := addB b ((findW ws x.code).getD zeroW) x.amount
def sumB (ws : List WageT) (l : List Elem) : BasesT := l.foldl (stepB ws) zeroB
def missing (ws : List WageT) (l : List Elem) : Bool := l.any fun x => (findW ws x.code).isNone
def amtsB (b : BasesT) : Bool := amtB b.g && amtB b.c && amtB b.t && amtB b.i && amtB b.a
def ofErr (ws : List WageT) (l m : List Elem) : Int := if validB ws = false then 1 else if preErr l ≠ 0 then preErr l else if missing ws m then 16 else if amtsB (sumB ws m) = false then 4 else 0
def ofV (ws : List WageT) (l m : List Elem) : Value := .tuple #[.agg (encB (if ofErr ws l m = 0 then sumB ws m else zeroB)).toArray, .int .i64 (ofErr ws l m)]

def Bs (w : World) (g : Nat) (b : BasesT) : Prop := Blk w g 52 (encB b).toArray
section
variable {w : World} {gg : Nat} {b : BasesT}
theorem Bs.g (h : Bs w gg b) (n : Int) : Bs (w.setCell ⟨gg, 0, none⟩ (.int .i64 n)) gg { b with g := n } := Blk.set_ h 0 _
theorem Bs.c (h : Bs w gg b) (n : Int) : Bs (w.setCell ⟨gg, 1, none⟩ (.int .i64 n)) gg { b with c := n } := Blk.set_ h 1 _
theorem Bs.t (h : Bs w gg b) (n : Int) : Bs (w.setCell ⟨gg, 2, none⟩ (.int .i64 n)) gg { b with t := n } := Blk.set_ h 2 _
theorem Bs.i (h : Bs w gg b) (n : Int) : Bs (w.setCell ⟨gg, 3, none⟩ (.int .i64 n)) gg { b with i := n } := Blk.set_ h 3 _
theorem Bs.a (h : Bs w gg b) (n : Int) : Bs (w.setCell ⟨gg, 4, none⟩ (.int .i64 n)) gg { b with a := n } := Blk.set_ h 4 _
theorem Bs.far (h : Bs w gg b) {p : Addr} (hp : gg ≠ p.block) (u : Value) : Bs (w.setCell p u) gg b := Blk.far h hp u
theorem Bs.alloc (h : Bs w gg b) (o : Obj) : Bs (w.alloc o) gg b := Blk.alloc h o
theorem Bs.below {w' : World} {B : Nat} (h : Bs w gg b) (hb : Below B w w') (hg : gg < B) : Bs w' gg b := Blk.below h hb hg
end
theorem Blk.put5 {w : World} {g : Nat} {t : TypeId} {cs : Array Value} (h : Blk w g t cs) (hs : cs.size = 5) (a0 a1 a2 a3 a4 : Value) :
    Blk (((((w.setCell ⟨g, 0, none⟩ a0).setCell ⟨g, 1, none⟩ a1).setCell ⟨g, 2, none⟩ a2).setCell ⟨g, 3, none⟩ a3).setCell ⟨g, 4, none⟩ a4) g t #[a0, a1, a2, a3, a4] := by
  have e : (((((cs.setIfInBounds 0 a0).setIfInBounds 1 a1).setIfInBounds 2 a2).setIfInBounds 3 a3).setIfInBounds 4 a4) = #[a0, a1, a2, a3, a4] := by
    obtain ⟨l⟩ := cs
    match l, hs with
    | [_, _, _, _, _], _ => rfl
  rw [← e]
  exact ((((h.set_ 0 a0).set_ 1 a1).set_ 2 a2).set_ 3 a3).set_ 4 a4

theorem sumB_take (ws : List WageT) (l : List Elem) (k : Nat) (h : k < l.length) : sumB ws (l.take (k + 1)) = stepB ws (sumB ws (l.take k)) l[k] := by
  rw [List.take_succ_eq_append_getElem h, sumB, List.foldl_append]; rfl
def BddB (B : Int) (b : BasesT) : Prop := (-B ≤ b.g ∧ b.g ≤ B) ∧ (-B ≤ b.c ∧ b.c ≤ B) ∧ (-B ≤ b.t ∧ b.t ≤ B) ∧ (-B ≤ b.i ∧ b.i ≤ B) ∧ (-B ≤ b.a ∧ b.a ≤ B)
theorem BddB.add {B C : Int} {b : BasesT} (h : BddB B b) (hC : 0 ≤ C) (y : WageT) {n : Int} (h1 : -C ≤ n) (h2 : n ≤ C) : BddB (B + C) (addB b y n) := by
  obtain ⟨⟨a1, a2⟩, ⟨b1, b2⟩, ⟨c1, c2⟩, ⟨d1, d2⟩, ⟨e1, e2⟩⟩ := h
  have ite_b : ∀ (p : Prop) [Decidable p], -C ≤ (if p then n else 0) ∧ (if p then n else 0) ≤ C := by intro p _; split <;> omega
  unfold BddB addB
  have k1 := ite_b (y.kind = 1)
  have k2 := ite_b (y.taxable = true)
  have k3 := ite_b (y.insured = true)
  have k4 := ite_b (y.attachable = true)
  refine ⟨?_, ?_, ?_, ?_, ?_⟩ <;> dsimp only <;> omega

theorem put_codes (l : List Elem) (e : Elem) : ∀ x ∈ put l e, x.code = e.code ∨ ∃ y ∈ l, y.code = x.code := by
  induction l with
  | nil => intro x hx; simp [put] at hx; subst hx; exact .inl rfl
  | cons a l ih =>
    intro x hx
    rw [put] at hx
    split at hx
    · rcases List.mem_cons.1 hx with rfl | hx
      · exact .inr ⟨_, by simp, rfl⟩
      · rcases ih x hx with h | ⟨y, hy, h⟩
        · exact .inl h
        · exact .inr ⟨y, by simp [hy], h⟩
    · split at hx
      · rcases List.mem_cons.1 hx with rfl | hx
        · exact .inl rfl
        · exact .inr ⟨x, by simp [hx], rfl⟩
      · rcases List.mem_cons.1 hx with rfl | hx
        · exact .inl rfl
        · exact .inr ⟨x, hx, rfl⟩
theorem foldl_codes (l : List Elem) : ∀ acc, ∀ x ∈ l.foldl put acc, (∃ y ∈ l, y.code = x.code) ∨ ∃ y ∈ acc, y.code = x.code := by
  induction l with
  | nil => intro acc x hx; exact .inr ⟨x, hx, rfl⟩
  | cons a l ih =>
    intro acc x hx
    rcases ih (put acc a) x hx with ⟨y, hy, h⟩ | ⟨y, hy, h⟩
    · exact .inl ⟨y, by simp [hy], h⟩
    · rcases put_codes acc a y hy with h1 | ⟨z, hz, h1⟩
      · exact .inl ⟨a, by simp, by rw [← h, h1]⟩
      · exact .inr ⟨z, hz, by rw [h1, h]⟩
theorem sumsP_codes {l : List Elem} {x : Elem} (hx : x ∈ sumsP l) : ∃ y ∈ l, y.code = x.code := by
  rcases foldl_codes l [] x hx with h | ⟨y, hy, _⟩
  · exact h
  · simp at hy
theorem sumsP_size {l : List Elem} (h : ∀ x ∈ l, x.code.size ≤ maxLen) (x : Elem) (hx : x ∈ sumsP l) : x.code.size ≤ maxLen := by
  obtain ⟨y, hy, e⟩ := sumsP_codes hx
  rw [← e]; exact h y hy
theorem preErr_zero {l : List Elem} (h : preErr l = 0) : Bdd 1000000000 (sumsP l) ∧ (sumsP l).length ≤ 128 := by
  have h1 : ¬ 128 < l.length := by
    intro h1; rw [preErr, if_pos h1] at h; cases h
  rw [preErr, if_neg h1] at h
  split at h
  · cases h
  · split at h
    · cases h
    · split at h
      · cases h
      · rename_i h4
        refine ⟨fun x hx => ?_, Nat.le_trans (sumsP_length l) (by omega)⟩
        simp only [Bool.not_eq_true, List.any_eq_false] at h4
        have := h4 x hx
        simpa [amtB] using this

theorem foundV_none : foundV none = .tuple #[.agg #[.string ⟨#[]⟩, .int .i64 0, .bool false, .bool false, .bool false, .int .i64 0], .bool false] := rfl
theorem foundV_some (y : WageT) : foundV (some y) = .tuple #[.agg #[.string y.code, .int .i64 y.kind, .bool y.taxable, .bool y.insured, .bool y.attachable, .int .i64 y.account], .bool true] := rfl
theorem Bs.cells {w : World} {gg : Nat} {b : BasesT} (h : Bs w gg b) : w.cell? ⟨gg, 0, none⟩ = some (.int .i64 b.g) ∧ w.cell? ⟨gg, 1, none⟩ = some (.int .i64 b.c) ∧ w.cell? ⟨gg, 2, none⟩ = some (.int .i64 b.t) ∧ w.cell? ⟨gg, 3, none⟩ = some (.int .i64 b.i) ∧ w.cell? ⟨gg, 4, none⟩ = some (.int .i64 b.a) :=
  ⟨Blk.cell h 0, Blk.cell h 1, Blk.cell h 2, Blk.cell h 3, Blk.cell h 4⟩
theorem Bs.frz {w : World} {gg : Nat} {b : BasesT} (h : Bs w gg b) : w.frozen? ⟨gg, 0, none⟩ = false ∧ w.frozen? ⟨gg, 1, none⟩ = false ∧ w.frozen? ⟨gg, 2, none⟩ = false ∧ w.frozen? ⟨gg, 3, none⟩ = false ∧ w.frozen? ⟨gg, 4, none⟩ = false :=
  ⟨Blk.frozen h 0, Blk.frozen h 1, Blk.frozen h 2, Blk.frozen h 3, Blk.frozen h 4⟩
theorem Bs.put {w : World} {gg : Nat} {b : BasesT} (h : Bs w gg b) (d : BasesT) : Bs (((((w.setCell ⟨gg, 0, none⟩ (.int .i64 d.g)).setCell ⟨gg, 1, none⟩ (.int .i64 d.c)).setCell ⟨gg, 2, none⟩ (.int .i64 d.t)).setCell ⟨gg, 3, none⟩ (.int .i64 d.i)).setCell ⟨gg, 4, none⟩ (.int .i64 d.a)) gg d :=
  Blk.put5 h rfl _ _ _ _ _
theorem below_put5 {w W : World} {gg : Nat} (h : Below w.heap.size w W) (hg : w.heap.size ≤ gg) (a0 a1 a2 a3 a4 : Value) : Below w.heap.size w (((((W.setCell ⟨gg, 0, none⟩ a0).setCell ⟨gg, 1, none⟩ a1).setCell ⟨gg, 2, none⟩ a2).setCell ⟨gg, 3, none⟩ a3).setCell ⟨gg, 4, none⟩ a4) :=
  below_put (below_put (below_put (below_put (below_put h hg 0 a0) hg 1 a1) hg 2 a2) hg 3 a3) hg 4 a4

/-- What holds between the fields that one round adds to. -/
structure OfCut (w w2 w4 : World) (y : WageT) (b : BasesT) (wx : World) : Prop where
  bs : Bs wx w2.heap.size b
  rs : Bs wx w.heap.size zeroB
  bel : Below w2.heap.size w2 wx
  wg : Blk wx w4.heap.size 31 (encW y).toArray
  lt1 : w.heap.size < w2.heap.size
  lt2 : w2.heap.size < w4.heap.size
section
variable {w w2 w4 wx : World} {y : WageT} {b : BasesT}
theorem OfCut.step (h : OfCut w w2 w4 y b wx) {b' : BasesT} {i : Nat} {u : Value} (hb : Bs (wx.setCell ⟨w2.heap.size, i, none⟩ u) w2.heap.size b') : OfCut w w2 w4 y b' (wx.setCell ⟨w2.heap.size, i, none⟩ u) :=
  ⟨hb, h.rs.far (by have := h.lt1; simp; omega) _, h.bel.setCell (by simp) _, h.wg.far (by have := h.lt2; simp; omega) _, h.lt1, h.lt2⟩
theorem OfCut.set_c (h : OfCut w w2 w4 y b wx) (n : Int) : OfCut w w2 w4 y { b with c := n } (wx.setCell ⟨w2.heap.size, 1, none⟩ (.int .i64 n)) := h.step (h.bs.c n)
theorem OfCut.set_t (h : OfCut w w2 w4 y b wx) (n : Int) : OfCut w w2 w4 y { b with t := n } (wx.setCell ⟨w2.heap.size, 2, none⟩ (.int .i64 n)) := h.step (h.bs.t n)
theorem OfCut.set_i (h : OfCut w w2 w4 y b wx) (n : Int) : OfCut w w2 w4 y { b with i := n } (wx.setCell ⟨w2.heap.size, 3, none⟩ (.int .i64 n)) := h.step (h.bs.i n)
theorem OfCut.set_a (h : OfCut w w2 w4 y b wx) (n : Int) : OfCut w w2 w4 y { b with a := n } (wx.setCell ⟨w2.heap.size, 4, none⟩ (.int .i64 n)) := h.step (h.bs.a n)
end

set_option maxRecDepth 100000 in
set_option maxHeartbeats 8000000 in
theorem of26_any (A E : Option Addr) (cap ecap : Nat) (ws : List WageT) (xs : List Elem) (w : World) (h : SliceOf encW 6 w w.heap.size A ws) (hzw : ∀ x ∈ ws, x.code.size ≤ maxLen) (hlw : ws.length ≤ 9223372036854775806)
    (hE : SliceOf encE 2 w w.heap.size E xs) (hz : ∀ x ∈ xs, x.code.size ≤ maxLen) (hl : xs.length ≤ 9223372036854775807) :
    Calls Try.prog 29 #[.slice A ws.length cap, .slice E xs.length ecap] w fun r w' => r = .returned (ofV ws xs (sumsP xs)) ∧ Below w.heap.size w w' := by
  have HZ := Lib.hid hz; clear hz
  have HZW := Lib.hid hzw; clear hzw
  go_enter Try.func29, Try.ntmps29
  go_wp2_with fail
  have hB0 : Bs (w.alloc (.cells #[.int .i64 0, .int .i64 0, .int .i64 0, .int .i64 0, .int .i64 0] 52)) w.heap.size zeroB := Blk.new _ _ _
  have hb0 : Below w.heap.size w (w.alloc (.cells #[.int .i64 0, .int .i64 0, .int .i64 0, .int .i64 0, .int .i64 0] 52)) := (Below.refl _ _).alloc (Nat.le_refl _) _
  generalize w.alloc (.cells #[.int .i64 0, .int .i64 0, .int .i64 0, .int .i64 0, .int .i64 0] 52) = w0 at hB0 hb0 ⊢
  have hs0 : w.heap.size < w0.heap.size := Blk.lt hB0
  refine (valid26_any A cap ws _ ((h.below hb0).more (by omega)) HZW.out (by omega)).mono ?_
  rintro e w1 ⟨rfl, hb1⟩
  have hB1 := hB0.below hb1 hs0
  have hbel1 := below_size hb0 hb1 (by omega)
  have hs1 := hb1.size
  by_cases hv : validB ws = true
  · have HV := Lib.hid hv
    go_wp2_with fail
    refine (sums26_any E ecap xs _ ((hE.below hbel1).more (by omega)) HZ.out hl).mono ?_
    rintro e w2 ⟨v2, rfl, hown, hb2⟩
    have hB2 := hB1.below hb2 (by omega)
    have hbel2 := below_size hbel1 hb2 (by omega)
    have hs2 := hb2.size
    by_cases h0 : preErr xs = 0
    · have H0 := Lib.hid h0
      rw [sumsR, if_pos h0] at hown
      rw [h0]
      obtain ⟨A5, c5, rfl, hS5, hB5, hlc5, hcm5⟩ := hown.form2 encE_len
      obtain ⟨hSb, hSl⟩ := preErr_zero h0
      have HSZ := Lib.hid (fun x hx => sumsP_size HZ.out x hx)
      generalize hS : sumsP xs = S at *
      clear h0 hB0 hb0 hb1 hb2 hB1 hbel1
      go_wp2
      have hBb : Bs (w2.alloc (.cells #[.int .i64 0, .int .i64 0, .int .i64 0, .int .i64 0, .int .i64 0] 52)) w2.heap.size zeroB := Blk.new _ _ _
      have hBr := hB2.alloc (Obj.cells #[.int .i64 0, .int .i64 0, .int .i64 0, .int .i64 0, .int .i64 0] 52)
      have hBS := (Below.refl w2.heap.size w2).alloc (Nat.le_refl _) (Obj.cells #[.int .i64 0, .int .i64 0, .int .i64 0, .int .i64 0, .int .i64 0] 52)
      generalize w2.alloc (.cells #[.int .i64 0, .int .i64 0, .int .i64 0, .int .i64 0, .int .i64 0] 52) = w3 at hBb hBr hBS ⊢
      go_loopw [9] (fun i wr => ∃ k : Nat, k ≤ S.length ∧ i = .int .i64 k ∧ Hid (∀ j, (hj : j < S.length) → j < k → (findW ws S[j].code).isSome = true) ∧ Bs wr w2.heap.size (sumB ws (S.take k)) ∧ BddB (k * 1000000000) (sumB ws (S.take k)) ∧ Bs wr w.heap.size zeroB ∧ Below w2.heap.size w2 wr) (fun i _ => S.length - (intOf i).toNat)
      case atStart => exact ⟨0, by omega, rfl, fun j _ hj => absurd hj (by omega), hBb, by simp [sumB, zeroB, BddB], hBr, hBS⟩
      case round =>
        clear hBb hBr hBS
        obtain ⟨k, hk, rfl, hall, hBb, hbd, hBr, hbel⟩ := hrel
        have hbs := Blk.lt hBb
        by_cases hlt : k < S.length
        · obtain ⟨b, off, rfl, hb, hc⟩ := (hS5.below hbel).at_ hlt
          have c0 := hc 0 _ rfl
          simp only [Nat.add_zero] at c0
          clear hc
          go_wp2_with fail
          refine (find26_any A cap ws S[k].code _ ((h.below (hbel2.trans (hbel.mono (by omega)))).more (by omega)) (by omega)).mono ?_
          rintro e w4 ⟨rfl, hb4⟩
          have hBb4 := hBb.below hb4 hbs
          have hBr4 := hBr.below hb4 (by omega)
          have hbel4 := below_size hbel hb4 (by omega)
          have hs4 := hb4.size
          have hw4 : w.heap.size < w4.heap.size := by omega
          have hw24 : w2.heap.size < w4.heap.size := by omega
          have hbw4 : b < w4.heap.size := by have := hbel.size; omega
          rcases hf : findW ws S[k].code with _ | y
          · rw [foundV_none]
            obtain ⟨r0, r1, r2, r3, r4⟩ := hBr4.cells
            obtain ⟨q0, q1, q2, q3, q4⟩ := hBr4.frz
            have HE : Hid (ofErr ws xs S = 16) := by
              have hm : missing ws S = true := List.any_eq_true.2 ⟨S[k], List.getElem_mem _, by simp [hf]⟩
              simp only [Hid, ofErr, HV.out, H0.out, hm, if_true, Bool.true_eq_false, if_false, ne_eq, not_true_eq_false]
            go_wp2
            have hfb := (hBr4.put zeroB).alloc (Obj.cells #[.string ⟨#[]⟩, .int .i64 0, .bool false, .bool false, .bool false, .int .i64 0] 31)
            have hfB : Below w.heap.size w _ := (below_put5 (hbel2.trans (hbel4.mono (by omega))) (Nat.le_refl _) (.int .i64 0) (.int .i64 0) (.int .i64 0) (.int .i64 0) (.int .i64 0)).alloc (by simp; omega) (Obj.cells #[.string ⟨#[]⟩, .int .i64 0, .bool false, .bool false, .bool false, .int .i64 0] 31)
            simp only [zeroB] at hfb
            generalize World.alloc _ _ = WW at hfb hfB ⊢
            obtain ⟨z0, z1, z2, z3, z4⟩ := hfb.cells
            refine bodyPost_ret (v := ofV ws xs S) ?_ rfl ⟨by rw [hS], hfB⟩
            rw [ofV, HE.out]
            simp [results, Try.results29, go_sem, z0, z1, z2, z3, z4, encB, zeroB]
          · rw [foundV_some]
            obtain ⟨r0, r1, r2, r3, r4⟩ := hBb4.cells
            obtain ⟨q0, q1, q2, q3, q4⟩ := hBb4.frz
            obtain ⟨b', off', hA', _, hc'⟩ := (hS5.below hbel4).at_ hlt
            injection hA' with hA'
            injection hA' with h1 h2
            subst h1 h2
            have d1 := hc' 1 _ rfl
            clear hc'
            have hSk := hSb _ (List.getElem_mem hlt)
            obtain ⟨hSk1, hSk2⟩ := hSk
            have hbd1 := hbd.add (C := 1000000000) (by omega) y hSk1 hSk2
            have est : sumB ws (S.take (k + 1)) = addB (sumB ws (S.take k)) y S[k].amount := by rw [sumB_take ws S k hlt, stepB, hf]; rfl
            have EST := Lib.hid est
            have hall1 : ∀ j, (hj : j < S.length) → j < k + 1 → (findW ws S[j].code).isSome = true := by
              intro j hj hjk
              rcases Nat.lt_or_ge j k with h1 | h1
              · exact hall.out j hj h1
              · obtain rfl : j = k := by omega
                rw [hf]; rfl
            have HALL := Lib.hid hall1
            clear hall1 est hf c0
            generalize sumB ws (S.take k) = bb at *
            obtain ⟨⟨g1, g2⟩, ⟨g3, g4⟩, ⟨g5, g6⟩, ⟨g7, g8⟩, ⟨g9, g10⟩⟩ := hbd
            have hcut0 : OfCut w w2 w4 y ⟨bb.g + S[k].amount, bb.c, bb.t, bb.i, bb.a⟩ ((w4.setCell ⟨w2.heap.size, 0, none⟩ (.int .i64 (bb.g + S[k].amount))).alloc (.cells (encW y).toArray 31)) :=
              ⟨(hBb4.g _).alloc _, (hBr4.far (by simp; omega) _).alloc _, (hbel4.setCell (by simp) _).alloc (by simp; omega) _, by have := Blk.new (w4.setCell ⟨w2.heap.size, 0, none⟩ (.int .i64 (bb.g + S[k].amount))) 31 (encW y).toArray; simpa using this, by omega, by omega⟩
            have HC0 := Lib.hid hcut0
            clear hcut0
            go_upto_if 57 with fail
            generalize hW0 : World.alloc _ _ = W0
            have C0 : OfCut w w2 w4 y ⟨bb.g + S[k].amount, bb.c, bb.t, bb.i, bb.a⟩ W0 := by rw [← hW0]; exact HC0.out
            clear hW0 r0 r1 r2 r3 r4 q0 q1 q2 q3 q4 d1 HC0 hBb4 hBr4 hBb hBr hbel hbel4 hB2
            obtain ⟨r0, r1, r2, r3, r4⟩ := C0.bs.cells
            obtain ⟨q0, q1, q2, q3, q4⟩ := C0.bs.frz
            have y1 := C0.wg.cell 1
            have y2 := C0.wg.cell 2
            have y3 := C0.wg.cell 3
            have y4 := C0.wg.cell 4
            simp only [encW, List.getElem?_toArray, List.getElem?_cons_zero, List.getElem?_cons_succ] at y1 y2 y3 y4
            go_cut [] (fun wx => OfCut w w2 w4 y ⟨bb.g + S[k].amount, bb.c + (if y.kind = 1 then S[k].amount else 0), bb.t, bb.i, bb.a⟩ wx)
            case first =>
              by_cases k1 : y.kind = 1
              · have k1' : (y.kind == 1) = true := by simp [k1]
                go_wp2
                go_meet
                have hz := (C0.set_c (bb.c + S[k].amount))
                simpa [k1] using hz
              · have k1' : (y.kind == 1) = false := by simp [k1]
                go_wp2
                go_meet
                simpa [k1] using C0
            case rest =>
              clear r0 r1 r2 r3 r4 q0 q1 q2 q3 q4 y1 y2 y3 y4 C0
              have C1 := hcut
              clear hcut
              obtain ⟨r0, r1, r2, r3, r4⟩ := C1.bs.cells
              obtain ⟨q0, q1, q2, q3, q4⟩ := C1.bs.frz
              have y1 := C1.wg.cell 1
              have y2 := C1.wg.cell 2
              have y3 := C1.wg.cell 3
              have y4 := C1.wg.cell 4
              simp only [encW, List.getElem?_toArray, List.getElem?_cons_zero, List.getElem?_cons_succ] at y1 y2 y3 y4
              go_upto_if 64 with fail
              go_cut [] (fun wx => OfCut w w2 w4 y ⟨bb.g + S[k].amount, bb.c + (if y.kind = 1 then S[k].amount else 0), bb.t + (if y.taxable = true then S[k].amount else 0), bb.i, bb.a⟩ wx)
              case first =>
                rcases k1 : y.taxable with _ | _
                rotate_left
                · skip
                  go_wp2
                  go_meet
                  have hz := (C1.set_t (bb.t + S[k].amount))
                  simpa [k1] using hz
                · skip
                  go_wp2
                  go_meet
                  simpa [k1] using C1
              case rest =>
                clear r0 r1 r2 r3 r4 q0 q1 q2 q3 q4 y1 y2 y3 y4 C1
                have C2 := hcut
                clear hcut
                obtain ⟨r0, r1, r2, r3, r4⟩ := C2.bs.cells
                obtain ⟨q0, q1, q2, q3, q4⟩ := C2.bs.frz
                have y1 := C2.wg.cell 1
                have y2 := C2.wg.cell 2
                have y3 := C2.wg.cell 3
                have y4 := C2.wg.cell 4
                simp only [encW, List.getElem?_toArray, List.getElem?_cons_zero, List.getElem?_cons_succ] at y1 y2 y3 y4
                go_upto_if 71 with fail
                go_cut [] (fun wx => OfCut w w2 w4 y ⟨bb.g + S[k].amount, bb.c + (if y.kind = 1 then S[k].amount else 0), bb.t + (if y.taxable = true then S[k].amount else 0), bb.i + (if y.insured = true then S[k].amount else 0), bb.a⟩ wx)
                case first =>
                  rcases k1 : y.insured with _ | _
                  rotate_left
                  · skip
                    go_wp2
                    go_meet
                    have hz := (C2.set_i (bb.i + S[k].amount))
                    simpa [k1] using hz
                  · skip
                    go_wp2
                    go_meet
                    simpa [k1] using C2
                case rest =>
                  clear r0 r1 r2 r3 r4 q0 q1 q2 q3 q4 y1 y2 y3 y4 C2
                  have C3 := hcut
                  clear hcut
                  obtain ⟨r0, r1, r2, r3, r4⟩ := C3.bs.cells
                  obtain ⟨q0, q1, q2, q3, q4⟩ := C3.bs.frz
                  have y4 := C3.wg.cell 4
                  simp only [encW, List.getElem?_toArray, List.getElem?_cons_zero, List.getElem?_cons_succ] at y4
                  have hfin : ∀ W', OfCut w w2 w4 y (addB bb y S[k].amount) W' → ∃ k' : Nat, k' ≤ S.length ∧ Value.int .i64 ((k : Int) + 1) = .int .i64 k' ∧ Hid (∀ j, (hj : j < S.length) → j < k' → (findW ws S[j].code).isSome = true) ∧ Bs W' w2.heap.size (sumB ws (S.take k')) ∧ BddB (k' * 1000000000) (sumB ws (S.take k')) ∧ Bs W' w.heap.size zeroB ∧ Below w2.heap.size w2 W' := by
                    intro W' hC
                    refine ⟨k + 1, by omega, by go_num, HALL.out, by rw [EST.out]; exact hC.bs, ?_, hC.rs, hC.bel⟩
                    have e9 : ((k + 1 : Nat) : Int) * 1000000000 = (k : Int) * 1000000000 + 1000000000 := by omega
                    rw [EST.out, e9]; exact hbd1
                  have HFIN := Lib.hid hfin
                  clear hfin
                  rcases k1 : y.attachable with _ | _
                  · have C4 : OfCut w w2 w4 y (addB bb y S[k].amount) wc := by simpa [addB, k1] using C3
                    clear C3
                    go_wp2
                    go_roundw
                    case rel =>
                      have hf := HFIN.out _ C4
                      first | exact hf | ((repeat apply Exists.intro); exact ⟨hf, rfl⟩)
                    case measure => simp [intOf]; omega
                  · have C4 : OfCut w w2 w4 y (addB bb y S[k].amount) (wc.setCell ⟨w2.heap.size, 4, none⟩ (.int .i64 (bb.a + S[k].amount))) := by simpa [addB, k1] using C3.set_a (bb.a + S[k].amount)
                    clear C3
                    go_wp2
                    go_roundw
                    case rel =>
                      have hf := HFIN.out _ C4
                      first | exact hf | ((repeat apply Exists.intro); exact ⟨hf, rfl⟩)
                    case measure => simp [intOf]; omega
        · have hSk : S.take k = S := List.take_of_length_le (by omega)
          rw [hSk] at hBb hbd
          have hmiss : Hid (missing ws S = false) := by
            rw [Hid, missing, List.any_eq_false]
            intro x hx
            obtain ⟨j, hj, rfl⟩ := List.mem_iff_getElem.1 hx
            have := hall.out j hj (by omega)
            rw [Option.isSome_iff_ne_none] at this
            simpa using this
          obtain ⟨r0, r1, r2, r3, r4⟩ := hBb.cells
          obtain ⟨p0, p1, p2, p3, p4⟩ := hBr.cells
          obtain ⟨q0, q1, q2, q3, q4⟩ := hBr.frz
          have HBB : Hid (Below w.heap.size w wr) := hbel2.trans (hbel.mono (by omega))
          have HS := Lib.hid hS
          have HOF : Hid (ofErr ws xs S = if amtsB (sumB ws S) = false then 4 else 0) := by
            simp only [Hid, ofErr, HV.out, H0.out, hmiss.out, if_false, Bool.true_eq_false, Bool.false_eq_true, ne_eq, not_true_eq_false]
          have hw4 : w.heap.size < wr.heap.size := by omega
          clear hS hSk hall hbd
          generalize hbb : sumB ws S = bb at *
          have HBBS := Lib.hid hbb
          clear hbb
          by_cases a1 : amtB bb.g = true
          rotate_left
          · have a1' : amtB bb.g = false := by simpa using a1
            have HE : Hid (ofErr ws xs S = 4) := by rw [Hid, HOF.out, if_pos (by simp [amtsB, a1'])]
            clear a1
            go_wp2_with (go_at_call 39; refine (amount26_any _ _).mono ?_; rintro e w' ⟨rfl, rfl⟩)
            have hfb := (hBr.put zeroB)
            have hfB : Below w.heap.size w _ := below_put5 HBB.out (Nat.le_refl _) (.int .i64 0) (.int .i64 0) (.int .i64 0) (.int .i64 0) (.int .i64 0)
            simp only [zeroB] at hfb
            generalize World.setCell _ ⟨w.heap.size, 4, none⟩ _ = WW at hfb hfB ⊢
            obtain ⟨z0, z1, z2, z3, z4⟩ := hfb.cells
            refine bodyPost_ret (v := ofV ws xs S) ?_ rfl ⟨by first | rfl | rw [HS.out], hfB⟩
            rw [ofV, HE.out]
            simp [results, Try.results29, go_sem, z0, z1, z2, z3, z4, encB, zeroB]
          by_cases a2 : amtB bb.c = true
          rotate_left
          · have a2' : amtB bb.c = false := by simpa using a2
            have HE : Hid (ofErr ws xs S = 4) := by rw [Hid, HOF.out, if_pos (by simp [amtsB, a2'])]
            clear a2
            go_wp2_with (go_at_call 39; refine (amount26_any _ _).mono ?_; rintro e w' ⟨rfl, rfl⟩)
            have hfb := (hBr.put zeroB)
            have hfB : Below w.heap.size w _ := below_put5 HBB.out (Nat.le_refl _) (.int .i64 0) (.int .i64 0) (.int .i64 0) (.int .i64 0) (.int .i64 0)
            simp only [zeroB] at hfb
            generalize World.setCell _ ⟨w.heap.size, 4, none⟩ _ = WW at hfb hfB ⊢
            obtain ⟨z0, z1, z2, z3, z4⟩ := hfb.cells
            refine bodyPost_ret (v := ofV ws xs S) ?_ rfl ⟨by first | rfl | rw [HS.out], hfB⟩
            rw [ofV, HE.out]
            simp [results, Try.results29, go_sem, z0, z1, z2, z3, z4, encB, zeroB]
          by_cases a3 : amtB bb.t = true
          rotate_left
          · have a3' : amtB bb.t = false := by simpa using a3
            have HE : Hid (ofErr ws xs S = 4) := by rw [Hid, HOF.out, if_pos (by simp [amtsB, a3'])]
            clear a3
            go_wp2_with (go_at_call 39; refine (amount26_any _ _).mono ?_; rintro e w' ⟨rfl, rfl⟩)
            have hfb := (hBr.put zeroB)
            have hfB : Below w.heap.size w _ := below_put5 HBB.out (Nat.le_refl _) (.int .i64 0) (.int .i64 0) (.int .i64 0) (.int .i64 0) (.int .i64 0)
            simp only [zeroB] at hfb
            generalize World.setCell _ ⟨w.heap.size, 4, none⟩ _ = WW at hfb hfB ⊢
            obtain ⟨z0, z1, z2, z3, z4⟩ := hfb.cells
            refine bodyPost_ret (v := ofV ws xs S) ?_ rfl ⟨by first | rfl | rw [HS.out], hfB⟩
            rw [ofV, HE.out]
            simp [results, Try.results29, go_sem, z0, z1, z2, z3, z4, encB, zeroB]
          by_cases a4 : amtB bb.i = true
          rotate_left
          · have a4' : amtB bb.i = false := by simpa using a4
            have HE : Hid (ofErr ws xs S = 4) := by rw [Hid, HOF.out, if_pos (by simp [amtsB, a4'])]
            clear a4
            go_wp2_with (go_at_call 39; refine (amount26_any _ _).mono ?_; rintro e w' ⟨rfl, rfl⟩)
            have hfb := (hBr.put zeroB)
            have hfB : Below w.heap.size w _ := below_put5 HBB.out (Nat.le_refl _) (.int .i64 0) (.int .i64 0) (.int .i64 0) (.int .i64 0) (.int .i64 0)
            simp only [zeroB] at hfb
            generalize World.setCell _ ⟨w.heap.size, 4, none⟩ _ = WW at hfb hfB ⊢
            obtain ⟨z0, z1, z2, z3, z4⟩ := hfb.cells
            refine bodyPost_ret (v := ofV ws xs S) ?_ rfl ⟨by first | rfl | rw [HS.out], hfB⟩
            rw [ofV, HE.out]
            simp [results, Try.results29, go_sem, z0, z1, z2, z3, z4, encB, zeroB]
          by_cases a5 : amtB bb.a = true
          rotate_left
          · have a5' : amtB bb.a = false := by simpa using a5
            have HE : Hid (ofErr ws xs S = 4) := by rw [Hid, HOF.out, if_pos (by simp [amtsB, a5'])]
            clear a5
            go_wp2_with (go_at_call 39; refine (amount26_any _ _).mono ?_; rintro e w' ⟨rfl, rfl⟩)
            have hfb := (hBr.put zeroB)
            have hfB : Below w.heap.size w _ := below_put5 HBB.out (Nat.le_refl _) (.int .i64 0) (.int .i64 0) (.int .i64 0) (.int .i64 0) (.int .i64 0)
            simp only [zeroB] at hfb
            generalize World.setCell _ ⟨w.heap.size, 4, none⟩ _ = WW at hfb hfB ⊢
            obtain ⟨z0, z1, z2, z3, z4⟩ := hfb.cells
            refine bodyPost_ret (v := ofV ws xs S) ?_ rfl ⟨by first | rfl | rw [HS.out], hfB⟩
            rw [ofV, HE.out]
            simp [results, Try.results29, go_sem, z0, z1, z2, z3, z4, encB, zeroB]
          have HE : Hid (ofErr ws xs S = 0) := by rw [Hid, HOF.out, if_neg (by simp [amtsB, a1, a2, a3, a4, a5])]
          go_wp2_with (go_at_call 39; refine (amount26_any _ _).mono ?_; rintro e w' ⟨rfl, rfl⟩)
          have hfb := (hBr.put bb)
          have hfB : Below w.heap.size w _ := below_put5 HBB.out (Nat.le_refl _) (.int .i64 bb.g) (.int .i64 bb.c) (.int .i64 bb.t) (.int .i64 bb.i) (.int .i64 bb.a)
          generalize World.setCell _ ⟨w.heap.size, 4, none⟩ _ = WW at hfb hfB ⊢
          obtain ⟨z0, z1, z2, z3, z4⟩ := hfb.cells
          refine bodyPost_ret (v := ofV ws xs S) ?_ rfl ⟨by rw [HS.out], hfB⟩
          rw [ofV, HE.out, if_pos rfl, HBBS.out]
          simp [results, Try.results29, go_sem, z0, z1, z2, z3, z4, encB]
    · have h0' : (preErr xs != 0) = true := by simpa using h0
      have HE : Hid (ofErr ws xs (sumsP xs) = preErr xs) := by
        rw [Hid, ofErr, if_neg (by simp [HV.out]), if_pos h0]
      have H0 := Lib.hid h0
      obtain ⟨p0, p1, p2, p3, p4⟩ := hB2.cells
      obtain ⟨q0, q1, q2, q3, q4⟩ := hB2.frz
      have HBB := Lib.hid hbel2
      clear h0
      go_wp2
      have hfb := (hB2.put zeroB)
      have hfB : Below w.heap.size w _ := below_put5 HBB.out (Nat.le_refl _) (.int .i64 0) (.int .i64 0) (.int .i64 0) (.int .i64 0) (.int .i64 0)
      simp only [zeroB] at hfb
      generalize World.setCell _ ⟨w.heap.size, 4, none⟩ _ = WW at hfb hfB ⊢
      obtain ⟨z0, z1, z2, z3, z4⟩ := hfb.cells
      refine bodyPost_ret (v := ofV ws xs (sumsP xs)) ?_ rfl ⟨by first | rfl | rw [HS.out], hfB⟩
      rw [ofV, HE.out, if_neg H0.out]
      simp [results, Try.results29, go_sem, z0, z1, z2, z3, z4, encB, zeroB]
  · have hv' : validB ws = false := by simpa using hv
    have HE : Hid (ofErr ws xs (sumsP xs) = 1) := by rw [Hid, ofErr, if_pos hv']
    obtain ⟨p0, p1, p2, p3, p4⟩ := hB1.cells
    obtain ⟨q0, q1, q2, q3, q4⟩ := hB1.frz
    have HBB := Lib.hid hbel1
    clear hv
    go_wp2
    have hfb := (hB1.put zeroB)
    have hfB : Below w.heap.size w _ := below_put5 HBB.out (Nat.le_refl _) (.int .i64 0) (.int .i64 0) (.int .i64 0) (.int .i64 0) (.int .i64 0)
    simp only [zeroB] at hfb
    generalize World.setCell _ ⟨w.heap.size, 4, none⟩ _ = WW at hfb hfB ⊢
    obtain ⟨z0, z1, z2, z3, z4⟩ := hfb.cells
    refine bodyPost_ret (v := ofV ws xs (sumsP xs)) ?_ rfl ⟨by first | rfl | rw [HS.out], hfB⟩
    rw [ofV, HE.out]
    simp [results, Try.results29, go_sem, z0, z1, z2, z3, z4, encB, zeroB]

end Go.Proofs.Ytlfefcfddpmccaa
