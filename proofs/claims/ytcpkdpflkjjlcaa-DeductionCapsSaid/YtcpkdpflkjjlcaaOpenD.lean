/- How slices of deductions and elements that came in are opened. Conditions: as stated. -/
import Derived.Test.YtcpkdpflkjjlcaaOpenI
import Derived.Test.YtcpkdpflkjjlcaaDed
namespace Go.Proofs.Ytcpkdpflkjjlcaa
open Go.ChangeShapes Go.WideShapes Go.ChangeAt Go.RowKit Go.Deep

theorem openD {H : Type} {enc : TypeId × Value → H} {W : World} {spare : Nat → Bool} {a : Option Addr} {len cap : Nat} {d : DataW H} {p : List MemPlace} (h : DataW.Trod enc Try.prog W 0 spare true 22 (.slice a len cap) d p) :
    ∃ xs : List DedT, xs.length = len ∧ SliceOf encD 6 W W.heap.size a xs ∧ (∀ x ∈ xs, x.code.size ≤ maxLen ∧ I64 x.rank ∧ I64 x.amount ∧ I64 x.rate ∧ I64 x.cap) ∧ len ≤ cap ∧ cap ≤ maxLen := by
  obtain ⟨fuel, hf⟩ := h
  rcases open_slice_fields Try.underlying22 Try.underlying33 (by kernel_rfl) (by kernel_rfl) hf with ⟨hcs, _⟩ | ⟨a', len', cap', m, D, Pl, hcs, _, hl, hm, hmm, _, hi⟩
  · simp [Value.cells] at hcs
    obtain ⟨rfl, rfl, rfl⟩ := hcs
    exact ⟨[], rfl, SliceOf.nil_, by simp, by omega, by unfold maxLen; omega⟩
  · simp [Value.cells] at hcs
    obtain ⟨rfl, rfl, rfl⟩ := hcs
    have hlm : len ≤ m := by rw [hmm]; split <;> omega
    have hh : ∀ i, i < len → ∃ x : DedT, (x.code.size ≤ maxLen ∧ I64 x.rank ∧ I64 x.amount ∧ I64 x.rate ∧ I64 x.cap) ∧ ∀ j v, (encD x)[j]? = some v → W.cell? (a'.add (i * 6 + j)) = some v := by
      intro i hi'
      obtain ⟨ys, n, _, _, _, hf⟩ := hi i (by omega)
      obtain ⟨v0, y0, c0, _, t0⟩ := hf 0 _ rfl
      obtain ⟨v1, y1, c1, _, t1⟩ := hf 1 _ rfl
      obtain ⟨v2, y2, c2, _, t2⟩ := hf 2 _ rfl
      obtain ⟨v3, y3, c3, _, t3⟩ := hf 3 _ rfl
      obtain ⟨v4, y4, c4, _, t4⟩ := hf 4 _ rfl
      obtain ⟨v5, y5, c5, _, t5⟩ := hf 5 _ rfl
      obtain ⟨s0, e0, _, w0⟩ := DataW.trod_string Try.underlying9 t0
      obtain ⟨s1, e1, _, w1⟩ := DataW.trod_int Try.underlying3 t1
      obtain ⟨s2, e2, _⟩ := DataW.trod_bool Try.underlying4 t2
      obtain ⟨s3, e3, _, w3⟩ := DataW.trod_int Try.underlying3 t3
      obtain ⟨s4, e4, _, w4⟩ := DataW.trod_int Try.underlying3 t4
      obtain ⟨s5, e5, _, w5⟩ := DataW.trod_int Try.underlying3 t5
      simp at e0 e1 e2 e3 e4 e5
      subst e0 e1 e2 e3 e4 e5
      refine ⟨⟨s0, s1, s2, s3, s4, s5⟩, ⟨w0, wf_I64 w1, wf_I64 w3, wf_I64 w4, wf_I64 w5⟩, fun j v hj => ?_⟩
      match j, hj with
      | 0, hj => simp [encD] at hj; subst hj; exact c0
      | 1, hj => simp [encD] at hj; subst hj; exact c1
      | 2, hj => simp [encD] at hj; subst hj; exact c2
      | 3, hj => simp [encD] at hj; subst hj; exact c3
      | 4, hj => simp [encD] at hj; subst hj; exact c4
      | 5, hj => simp [encD] at hj; subst hj; exact c5
      | (n + 6), hj => simp [encD] at hj
    obtain ⟨xs, h1, h2, h3⟩ := list_of encD_len (by omega) _ a' len hh
    exact ⟨xs, h1, h3, h2, hl, hm⟩

theorem openE {H : Type} {enc : TypeId × Value → H} {W : World} {spare : Nat → Bool} {a : Option Addr} {len cap : Nat} {d : DataW H} {p : List MemPlace} (h : DataW.Trod enc Try.prog W 0 spare true 23 (.slice a len cap) d p) :
    ∃ xs : List Elem, xs.length = len ∧ SliceOf encE 2 W W.heap.size a xs ∧ (∀ x ∈ xs, x.code.size ≤ maxLen ∧ I64 x.amount) ∧ len ≤ cap ∧ cap ≤ maxLen := by
  obtain ⟨fuel, hf⟩ := h
  rcases open_slice_fields Try.underlying23 Try.underlying60 (by kernel_rfl) (by kernel_rfl) hf with ⟨hcs, _⟩ | ⟨a', len', cap', m, D, Pl, hcs, _, hl, hm, hmm, _, hi⟩
  · simp [Value.cells] at hcs
    obtain ⟨rfl, rfl, rfl⟩ := hcs
    exact ⟨[], rfl, SliceOf.nil_, by simp, by omega, by unfold maxLen; omega⟩
  · simp [Value.cells] at hcs
    obtain ⟨rfl, rfl, rfl⟩ := hcs
    have hlm : len ≤ m := by rw [hmm]; split <;> omega
    have hh : ∀ i, i < len → ∃ x : Elem, (x.code.size ≤ maxLen ∧ I64 x.amount) ∧ ∀ j v, (encE x)[j]? = some v → W.cell? (a'.add (i * 2 + j)) = some v := by
      intro i hi'
      obtain ⟨ys, n, _, _, _, hf⟩ := hi i (by omega)
      obtain ⟨v0, y0, c0, _, t0⟩ := hf 0 _ rfl
      obtain ⟨v1, y1, c1, _, t1⟩ := hf 1 _ rfl
      obtain ⟨s0, e0, _, w0⟩ := DataW.trod_string Try.underlying9 t0
      obtain ⟨s1, e1, _, w1⟩ := DataW.trod_int Try.underlying3 t1
      simp at e0 e1
      subst e0 e1
      refine ⟨⟨s0, s1⟩, ⟨w0, wf_I64 w1⟩, fun j v hj => ?_⟩
      match j, hj with
      | 0, hj => simp [encE] at hj; subst hj; exact c0
      | 1, hj => simp [encE] at hj; subst hj; exact c1
      | (n + 2), hj => simp [encE] at hj
    obtain ⟨xs, h1, h2, h3⟩ := list_of encE_len (by omega) _ a' len hh
    exact ⟨xs, h1, h3, h2, hl, hm⟩

end Go.Proofs.Ytcpkdpflkjjlcaa
