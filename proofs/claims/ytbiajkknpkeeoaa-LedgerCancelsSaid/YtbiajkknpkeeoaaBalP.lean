/- Plain laws for Balanced: run by run. Conditions: as stated. -/
import Derived.Test.YtbiajkknpkeeoaaBk
namespace Go.Proofs.Ytbiajkknpkeeoaa
open Go.RowKit

theorem balL_no {m : List BookT} {x : BookT} (hx : x ∈ m) (h : runTot m x.run ≠ 0) : balL m = false := by
  rw [balL, List.all_eq_false]
  exact ⟨x, hx, by simpa using h⟩
theorem balL_yes {m : List BookT} (h : ∀ x ∈ m, runTot m x.run = 0) : balL m = true := by
  rw [balL, List.all_eq_true]
  intro x hx
  simpa using h x hx
/-- The place i is the last one of its run. -/
def lastR (m : List BookT) (i : Nat) : Prop := ∀ j, (hj : j < m.length) → i < j → ∀ hi : i < m.length, m[j].run ≠ m[i].run
theorem last_of {m : List BookT} (hs : RB.Sorted m) {i : Nat} (hi : i < m.length) (h : i + 1 = m.length ∨ ∃ h1 : i + 1 < m.length, m[i + 1].run ≠ m[i].run) : runTot (m.take (i + 1)) m[i].run = runTot m m[i].run := by
  have hout : runTot (m.drop (i + 1)) m[i].run = 0 := by
    apply runTot_out
    intro x hx e
    obtain ⟨j, hj, rfl⟩ := List.mem_iff_getElem.1 hx
    simp only [List.getElem_drop] at e
    simp only [List.length_drop] at hj
    rcases h with h | ⟨h1, h2⟩
    · omega
    · have g1 := sorted_run hs hi h1 (by omega)
      have g2 := sorted_run hs h1 (show i + 1 + j < m.length by omega) (by omega)
      omega
  have e := runTot_append (m.take (i + 1)) (m.drop (i + 1)) m[i].run
  rw [List.take_append_drop] at e
  omega
/-- What is known ahead of place i: the runs that ended have the sum 0; n is the sum of the run so far. -/
structure BalAt (m : List BookT) (i : Nat) (n : Int) : Prop where
  zero : ∀ j, (hj : j < m.length) → j < i → (i = m.length ∨ ∃ hi : i < m.length, m[j].run < m[i].run) → runTot m m[j].run = 0
  sum : ∀ hi : i < m.length, n = runTot (m.take i) m[i].run
theorem BalAt.start (m : List BookT) : BalAt m 0 0 := ⟨fun j _ hj => absurd hj (by omega), fun _ => rfl⟩
theorem BalAt.next {m : List BookT} (hs : RB.Sorted m) {i : Nat} {n : Int} (h : BalAt m i n) (hi : i < m.length) : n + m[i].amount = runTot (m.take (i + 1)) m[i].run := by
  rw [runTot_take m i hi, if_pos rfl, h.sum hi]
/-- Within a run. -/
theorem BalAt.stay {m : List BookT} (hs : RB.Sorted m) {i : Nat} {n : Int} (h : BalAt m i n) (hi : i + 1 < m.length) (e : m[i + 1].run = m[i].run) : BalAt m (i + 1) (n + m[i].amount) := by
  refine ⟨fun j hj hji hor => ?_, fun h1 => ?_⟩
  · rcases hor with hor | ⟨h1, h2⟩
    · omega
    · rcases Nat.lt_or_ge j i with g | g
      · exact h.zero j hj g (.inr ⟨by omega, by omega⟩)
      · obtain rfl : j = i := by omega
        omega
  · rw [h.next hs (by omega), e]
/-- At the end of a run with the sum 0. -/
theorem BalAt.end_ {m : List BookT} (hs : RB.Sorted m) {i : Nat} {n : Int} (h : BalAt m i n) (hi : i < m.length) (hl : i + 1 = m.length ∨ ∃ h1 : i + 1 < m.length, m[i + 1].run ≠ m[i].run) (h0 : n + m[i].amount = 0) : BalAt m (i + 1) (n + m[i].amount) := by
  have hz : runTot m m[i].run = 0 := by rw [← last_of hs hi hl, ← h.next hs hi]; exact h0
  refine ⟨fun j hj hji hor => ?_, fun h1 => ?_⟩
  · by_cases e : m[j].run = m[i].run
    · rw [e]; exact hz
    · have hle := sorted_run hs hj hi (by omega)
      exact h.zero j hj (by
        rcases Nat.lt_or_ge j i with g | g
        · exact g
        · obtain rfl : j = i := by omega
          exact absurd rfl e) (.inr ⟨hi, by omega⟩)
  · rw [h0]
    rcases hl with hl | ⟨_, hl⟩
    · omega
    · symm
      apply runTot_out
      intro x hx e
      obtain ⟨j, hj, rfl⟩ := List.mem_iff_getElem.1 hx
      rw [List.getElem_take] at e
      simp only [List.length_take] at hj
      have g1 := sorted_run hs (show j < m.length by omega) hi (by omega)
      have g2 := sorted_run hs hi h1 (by omega)
      omega
theorem BalAt.done {m : List BookT} {n : Int} (h : BalAt m m.length n) : balL m = true := by
  apply balL_yes
  intro x hx
  obtain ⟨j, hj, rfl⟩ := List.mem_iff_getElem.1 hx
  exact h.zero j hj hj (.inl rfl)
theorem BalAt.fail {m : List BookT} (hs : RB.Sorted m) {i : Nat} {n : Int} (h : BalAt m i n) (hi : i < m.length) (hl : i + 1 = m.length ∨ ∃ h1 : i + 1 < m.length, m[i + 1].run ≠ m[i].run) (h0 : n + m[i].amount ≠ 0) : balL m = false :=
  balL_no (List.getElem_mem hi) (by rw [← last_of hs hi hl, ← h.next hs hi]; exact h0)

end Go.Proofs.Ytbiajkknpkeeoaa
