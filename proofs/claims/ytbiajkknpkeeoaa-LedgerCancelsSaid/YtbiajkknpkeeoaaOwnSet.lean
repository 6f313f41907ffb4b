/- Writing to a row of the call's own: one cell, one record of three cells. Conditions: as stated. -/
import Derived.Test.YtbiajkknpkeeoaaData2
namespace Go.Proofs.Ytbiajkknpkeeoaa
open Go.RowKit

theorem row_set {w : World} {base g n cap : Nat} {e : TypeId} {k : Nat} {L : List Value} (h : w.ownsRow base e k (.slice (some ⟨g, 0, none⟩) n cap) n L) (i : Nat) (u : Value) :
    (w.setCell ⟨g, i, none⟩ u).ownsRow base e k (.slice (some ⟨g, 0, none⟩) n cap) n (L.set i u) := by
  obtain ⟨h1, h2⟩ := h
  refine ⟨by simpa using h1, ?_⟩
  rcases h2 with ⟨hv, _⟩ | ⟨g', cap', cur, hv, hb, hg, hn, hm, hs, ht⟩
  · cases hv
  · injection hv with e1 e2 e3
    injection e1 with e1
    injection e1 with e1 _
    subst e1 e3
    refine .inr ⟨g, cap, cur.setIfInBounds i u, rfl, hb, ?_, hn, hm, by simpa using hs, ?_⟩
    · simp [World.setCell, Array.getElem?_modify, hg]
    · rw [Array.toList_setIfInBounds, List.take_set, ht]
theorem flatMap_set3 {α : Type} {enc : α → List Value} (hk : ∀ x, (enc x).length = 3) (y : α) (a b c : Value) (hy : enc y = [a, b, c]) : ∀ (ys : List α) (j : Nat), j < ys.length → (ys.set j y).flatMap enc = (((ys.flatMap enc).set (j * 3) a).set (j * 3 + 1) b).set (j * 3 + 2) c := by
  intro ys
  induction ys with
  | nil => intro j hj; simp at hj
  | cons x r ih =>
    intro j hj
    cases j with
    | zero =>
      obtain ⟨x0, x1, x2, hx⟩ : ∃ x0 x1 x2, enc x = [x0, x1, x2] := by
        have := hk x
        match hx : enc x, this with
        | [x0, x1, x2], _ => exact ⟨x0, x1, x2, rfl⟩
      simp [hy, hx]
    | succ j =>
      obtain ⟨x0, x1, x2, hx⟩ : ∃ x0 x1 x2, enc x = [x0, x1, x2] := by
        have := hk x
        match hx : enc x, this with
        | [x0, x1, x2], _ => exact ⟨x0, x1, x2, rfl⟩
      rw [List.set_cons_succ, List.flatMap_cons, List.flatMap_cons, ih j (by simpa using hj), hx]
      rw [show (j + 1) * 3 = j * 3 + 3 by omega, show j * 3 + 3 + 1 = j * 3 + 1 + 3 by omega, show j * 3 + 3 + 2 = j * 3 + 2 + 3 by omega]
      simp [List.set_cons_succ]
theorem flatMap_len3 {α : Type} {enc : α → List Value} (hk : ∀ x, (enc x).length = 3) (ys : List α) : (ys.flatMap enc).length = ys.length * 3 := by
  induction ys with
  | nil => rfl
  | cons a l ih => rw [List.flatMap_cons, List.length_append, hk, ih, List.length_cons]; omega
/-- A record of three cells is written into a row of the call's own. -/
theorem Own.set3 {α : Type} {enc : α → List Value} {e : TypeId} {w : World} {base g cap : Nat} {ys : List α} (hk : ∀ x, (enc x).length = 3) {n : Nat} (hn : n = ys.length) (h : Own enc 3 e w base (.slice (some ⟨g, 0, none⟩) n cap) ys) {j : Nat} (hj : j < ys.length) (y : α) (a b c : Value) (hy : enc y = [a, b, c]) :
    Own enc 3 e (((w.setCell ⟨g, j * 3, none⟩ a).setCell ⟨g, j * 3 + 1, none⟩ b).setCell ⟨g, j * 3 + 2, none⟩ c) base (.slice (some ⟨g, 0, none⟩) n cap) (ys.set j y) := by
  subst hn
  unfold Own
  rw [flatMap_set3 hk y a b c hy ys j hj, List.length_set]
  exact row_set (row_set (row_set h _ _) _ _) _ _
theorem flatMap_set1 {α : Type} {enc : α → List Value} (hk : ∀ x, (enc x).length = 3) (y : α) (f : Nat) (u : Value) (hf : f < 3) : ∀ (ys : List α) (j : Nat) (hj : j < ys.length), enc y = (enc ys[j]).set f u → (ys.set j y).flatMap enc = (ys.flatMap enc).set (j * 3 + f) u := by
  intro ys
  induction ys with
  | nil => intro j hj; simp at hj
  | cons x r ih =>
    intro j hj hy
    cases j with
    | zero =>
      simp only [List.getElem_cons_zero] at hy
      rw [List.set_cons_zero, List.flatMap_cons, List.flatMap_cons, hy, Nat.zero_mul, Nat.zero_add, List.set_append_left _ _ (by rw [hk]; exact hf)]
    | succ j =>
      simp only [List.getElem_cons_succ] at hy
      rw [List.set_cons_succ, List.flatMap_cons, List.flatMap_cons, ih j (by simpa using hj) hy, List.set_append_right _ _ (by rw [hk]; omega), hk]
      rw [show (j + 1) * 3 + f - 3 = j * 3 + f by omega]
/-- One cell of a record of three cells is written. -/
theorem Own.set1 {α : Type} {enc : α → List Value} {e : TypeId} {w : World} {base g cap : Nat} {ys : List α} (hk : ∀ x, (enc x).length = 3) {n : Nat} (hn : n = ys.length) (h : Own enc 3 e w base (.slice (some ⟨g, 0, none⟩) n cap) ys) {j : Nat} (hj : j < ys.length) (y : α) (f : Nat) (u : Value) (hf : f < 3) (hy : enc y = (enc ys[j]).set f u) :
    Own enc 3 e (w.setCell ⟨g, j * 3 + f, none⟩ u) base (.slice (some ⟨g, 0, none⟩) n cap) (ys.set j y) := by
  subst hn
  unfold Own
  rw [flatMap_set1 hk y f u hf ys j hj hy, List.length_set]
  exact row_set h _ _
/-- A row that isn't empty lies in a block of its own. -/
theorem Own.some_ {α : Type} {enc : α → List Value} {k : Nat} {e : TypeId} {w : World} {base : Nat} {v : Value} {ys : List α} (h : Own enc k e w base v ys) (hne : 0 < ys.length) : ∃ g cap cur, v = .slice (some ⟨g, 0, none⟩) ys.length cap ∧ base ≤ g ∧ Blk w g e cur ∧ ys.length ≤ cap ∧ cap ≤ maxLen := by
  rcases h.2 with ⟨_, h0⟩ | ⟨g, cap, cur, rfl, hb, hg, hn, hm, _⟩
  · omega
  · exact ⟨g, cap, cur, rfl, hb, hg, hn, hm⟩

/-- A block of three cells that aren't those of the row isn't the row's. -/
theorem Own.ne_blk {α : Type} {enc : α → List Value} {e t : TypeId} {w : World} {base g g0 n cap : Nat} {ys : List α} {a b c : Value} (hk : ∀ x, (enc x).length = 3) (h : Own enc 3 e w base (.slice (some ⟨g, 0, none⟩) n cap) ys) (hB : Blk w g0 t #[a, b, c]) (hne : ∀ y, ys = [y] → (enc y)[1]? ≠ some b) (h0 : 0 < ys.length) : g ≠ g0 := by
  rcases h.2 with ⟨hv, _⟩ | ⟨g', cap', cur, hv, hb, hg, hn, hm, hs, ht⟩
  · cases hv
  · injection hv with e1 e2 e3
    injection e1 with e1
    injection e1 with e1 _
    subst e1 e3
    intro e4
    subst e4
    unfold Blk at hB
    rw [hB] at hg
    injection hg with hg
    injection hg with hc _ _
    subst hc
    have hcap : cap = 1 := by
      have : (#[a, b, c] : Array Value).size = 3 := rfl
      omega
    have hlen : ys.length = 1 := by omega
    obtain ⟨y, rfl⟩ : ∃ y, ys = [y] := by
      match ys, hlen with
      | [y], _ => exact ⟨y, rfl⟩
    apply hne y rfl
    have h3 := flatMap_len3 hk [y]
    simp only [List.flatMap_cons, List.flatMap_nil, List.append_nil, List.length_singleton] at ht h3
    rw [← ht]
    rfl

end Go.Proofs.Ytbiajkknpkeeoaa
