/- How a slice of entries that came in is opened. Conditions: as stated. -/
import Derived.Test.YtbiajkknpkeeoaaOpenI
import Derived.Test.YtbiajkknpkeeoaaBk
namespace Go.Proofs.Ytbiajkknpkeeoaa
open Go.ChangeShapes Go.WideShapes Go.ChangeAt Go.RowKit Go.Deep

theorem openB {H : Type} {enc : TypeId × Value → H} {W : World} {spare : Nat → Bool} {a : Option Addr} {len cap : Nat} {d : DataW H} {p : List MemPlace} (h : DataW.Trod enc Try.prog W 0 spare true 32 (.slice a len cap) d p) :
    ∃ xs : List BookT, xs.length = len ∧ SliceOf encB 3 W W.heap.size a xs ∧ (∀ x ∈ xs, I64 x.run ∧ I64 x.account ∧ I64 x.amount) ∧ len ≤ cap ∧ cap ≤ maxLen := by
  obtain ⟨fuel, hf⟩ := h
  rcases open_slice_fields Try.underlying32 Try.underlying42 (by kernel_rfl) (by kernel_rfl) hf with ⟨hcs, _⟩ | ⟨a', len', cap', m, D, Pl, hcs, _, hl, hm, hmm, _, hi⟩
  · simp [Value.cells] at hcs
    obtain ⟨rfl, rfl, rfl⟩ := hcs
    exact ⟨[], rfl, SliceOf.nil_, by simp, by omega, by unfold maxLen; omega⟩
  · simp [Value.cells] at hcs
    obtain ⟨rfl, rfl, rfl⟩ := hcs
    have hlm : len ≤ m := by rw [hmm]; split <;> omega
    have hh : ∀ i, i < len → ∃ x : BookT, (I64 x.run ∧ I64 x.account ∧ I64 x.amount) ∧ ∀ j v, (encB x)[j]? = some v → W.cell? (a'.add (i * 3 + j)) = some v := by
      intro i hi'
      obtain ⟨ys, n, _, _, _, hf⟩ := hi i (by omega)
      obtain ⟨v0, y0, c0, _, t0⟩ := hf 0 _ rfl
      obtain ⟨v1, y1, c1, _, t1⟩ := hf 1 _ rfl
      obtain ⟨v2, y2, c2, _, t2⟩ := hf 2 _ rfl
      obtain ⟨s0, e0, _, w0⟩ := DataW.trod_int Try.underlying3 t0
      obtain ⟨s1, e1, _, w1⟩ := DataW.trod_int Try.underlying3 t1
      obtain ⟨s2, e2, _, w2⟩ := DataW.trod_int Try.underlying3 t2
      simp at e0 e1 e2
      subst e0 e1 e2
      refine ⟨⟨s0, s1, s2⟩, ⟨wf_I64 w0, wf_I64 w1, wf_I64 w2⟩, fun j v hj => ?_⟩
      match j, hj with
      | 0, hj => simp [encB] at hj; subst hj; exact c0
      | 1, hj => simp [encB] at hj; subst hj; exact c1
      | 2, hj => simp [encB] at hj; subst hj; exact c2
      | (n + 3), hj => simp [encB] at hj
    obtain ⟨xs, h1, h2, h3⟩ := list_of encB_len (by omega) _ a' len hh
    exact ⟨xs, h1, h3, h2, hl, hm⟩

end Go.Proofs.Ytbiajkknpkeeoaa
