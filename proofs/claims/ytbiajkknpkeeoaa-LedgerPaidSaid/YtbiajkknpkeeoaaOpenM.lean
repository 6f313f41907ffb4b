/- How a slice of payments that came in is opened. Conditions: as stated. -/
import Derived.Test.YtbiajkknpkeeoaaOpenI
import Derived.Test.YtbiajkknpkeeoaaPay
namespace Go.Proofs.Ytbiajkknpkeeoaa
open Go.ChangeShapes Go.WideShapes Go.ChangeAt Go.RowKit Go.Deep

theorem openM {H : Type} {enc : TypeId × Value → H} {W : World} {spare : Nat → Bool} {a : Option Addr} {len cap : Nat} {d : DataW H} {p : List MemPlace} (h : DataW.Trod enc Try.prog W 0 spare true 53 (.slice a len cap) d p) :
    ∃ xs : List PayT, xs.length = len ∧ SliceOf encM 2 W W.heap.size a xs ∧ (∀ x ∈ xs, I64 x.number ∧ I64 x.amount) ∧ len ≤ cap ∧ cap ≤ maxLen := by
  obtain ⟨fuel, hf⟩ := h
  rcases open_slice_fields Try.underlying53 Try.underlying78 (by kernel_rfl) (by kernel_rfl) hf with ⟨hcs, _⟩ | ⟨a', len', cap', m, D, Pl, hcs, _, hl, hm, hmm, _, hi⟩
  · simp [Value.cells] at hcs
    obtain ⟨rfl, rfl, rfl⟩ := hcs
    exact ⟨[], rfl, SliceOf.nil_, by simp, by omega, by unfold maxLen; omega⟩
  · simp [Value.cells] at hcs
    obtain ⟨rfl, rfl, rfl⟩ := hcs
    have hlm : len ≤ m := by rw [hmm]; split <;> omega
    have hh : ∀ i, i < len → ∃ x : PayT, (I64 x.number ∧ I64 x.amount) ∧ ∀ j v, (encM x)[j]? = some v → W.cell? (a'.add (i * 2 + j)) = some v := by
      intro i hi'
      obtain ⟨ys, n, _, _, _, hf⟩ := hi i (by omega)
      obtain ⟨v0, y0, c0, _, t0⟩ := hf 0 _ rfl
      obtain ⟨v1, y1, c1, _, t1⟩ := hf 1 _ rfl
      obtain ⟨s0, e0, _, w0⟩ := DataW.trod_int Try.underlying3 t0
      obtain ⟨s1, e1, _, w1⟩ := DataW.trod_int Try.underlying3 t1
      simp at e0 e1
      subst e0 e1
      refine ⟨⟨s0, s1⟩, ⟨wf_I64 w0, wf_I64 w1⟩, fun j v hj => ?_⟩
      match j, hj with
      | 0, hj => simp [encM] at hj; subst hj; exact c0
      | 1, hj => simp [encM] at hj; subst hj; exact c1
      | (n + 2), hj => simp [encM] at hj
    obtain ⟨xs, h1, h2, h3⟩ := list_of encM_len (by omega) _ a' len hh
    exact ⟨xs, h1, h3, h2, hl, hm⟩

end Go.Proofs.Ytbiajkknpkeeoaa
