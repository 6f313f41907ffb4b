/- How a slice of postings that came in is opened. Conditions: as stated. -/
import Derived.Test.YtbiajkknpkeeoaaOpenI
import Derived.Test.YtbiajkknpkeeoaaLine
namespace Go.Proofs.Ytbiajkknpkeeoaa
open Go.ChangeShapes Go.WideShapes Go.ChangeAt Go.RowKit Go.Deep

theorem list_6 {α : Type} {l : List α} (h : l.length = 6) : ∃ c0 c1 c2 c3 c4 c5, l = [c0, c1, c2, c3, c4, c5] := by
  match l, h with
  | [c0, c1, c2, c3, c4, c5], _ => exact ⟨c0, c1, c2, c3, c4, c5, rfl⟩
theorem cellsP : Try.prog.cellsOf 28 = 6 := by kernel_rfl
theorem cellsL : Try.prog.cellsOf 26 = 3 := by kernel_rfl
theorem cellsInt : Try.prog.cellsOf 3 = 1 := by kernel_rfl
theorem cellsStr : Try.prog.cellsOf 9 = 1 := by kernel_rfl

set_option maxRecDepth 100000 in
theorem openP {H : Type} {enc : TypeId × Value → H} {W : World} {spare : Nat → Bool} {a : Option Addr} {len cap : Nat} {d : DataW H} {p : List MemPlace} (h : DataW.Trod enc Try.prog W 0 spare true 23 (.slice a len cap) d p) :
    ∃ xs : List PostT, xs.length = len ∧ SliceOf encP 6 W W.heap.size a xs ∧ (∀ x ∈ xs, x.line.code.size ≤ maxLen) ∧ len ≤ cap ∧ cap ≤ maxLen := by
  obtain ⟨fuel, hf⟩ := h
  rcases open_slice Try.underlying23 hf with ⟨hcs, _⟩ | ⟨a', len', cap', m, n, D, Pl, hcs, _, hl, hm, hmm, _, hi⟩
  · simp [Value.cells] at hcs
    obtain ⟨rfl, rfl, rfl⟩ := hcs
    exact ⟨[], rfl, SliceOf.nil_, by simp, by omega, by unfold maxLen; omega⟩
  · simp [Value.cells] at hcs
    obtain ⟨rfl, rfl, rfl⟩ := hcs
    have hlm : len ≤ m := by rw [hmm]; split <;> omega
    have hh : ∀ i, i < len → ∃ x : PostT, (x.line.code.size ≤ maxLen) ∧ ∀ j v, (encP x)[j]? = some v → W.cell? (a'.add (i * 6 + j)) = some v := by
      intro i hi'
      obtain ⟨cs', hc, ht'⟩ := hi i (by omega)
      rw [cellsP] at hc
      obtain ⟨_, hcl, hat⟩ := World.cells?_some hc
      obtain ⟨c0, c1, c2, c3, c4, c5, rfl⟩ := list_6 hcl
      obtain ⟨ys, n', _, _, _, hyl, hg⟩ := DataW.trod_struct Try.underlying28 ht'
      have g0 : DataW.trod enc Try.prog W 0 spare true n' 3 (([c0, c1, c2, c3, c4, c5].drop 0).take (Try.prog.cellsOf 3)) = ys[0]? := hg 0 _ rfl
      have g1 : DataW.trod enc Try.prog W 0 spare true n' 3 (([c0, c1, c2, c3, c4, c5].drop 1).take (Try.prog.cellsOf 3)) = ys[1]? := hg 1 _ rfl
      have g2 : DataW.trod enc Try.prog W 0 spare true n' 3 (([c0, c1, c2, c3, c4, c5].drop 2).take (Try.prog.cellsOf 3)) = ys[2]? := hg 2 _ rfl
      have g3 : DataW.trod enc Try.prog W 0 spare true n' 26 (([c0, c1, c2, c3, c4, c5].drop 3).take (Try.prog.cellsOf 26)) = ys[3]? := hg 3 _ rfl
      have hyl4 : ys.length = 4 := hyl
      rw [cellsInt, List.getElem?_eq_getElem (by omega)] at g0 g1 g2
      rw [cellsL, List.getElem?_eq_getElem (by omega)] at g3
      simp only [List.drop_succ_cons, List.drop_zero, List.take_succ_cons, List.take_zero] at g0 g1 g2 g3
      obtain ⟨s0, e0, _, _⟩ := DataW.trod_int Try.underlying3 g0
      obtain ⟨s1, e1, _, _⟩ := DataW.trod_int Try.underlying3 g1
      obtain ⟨s2, e2, _, _⟩ := DataW.trod_int Try.underlying3 g2
      obtain ⟨zs, n'', _, _, _, hzl, hk⟩ := DataW.trod_struct Try.underlying26 g3
      have k0 : DataW.trod enc Try.prog W 0 spare true n'' 3 (([c3, c4, c5].drop 0).take (Try.prog.cellsOf 3)) = zs[0]? := hk 0 _ rfl
      have k1 : DataW.trod enc Try.prog W 0 spare true n'' 9 (([c3, c4, c5].drop 1).take (Try.prog.cellsOf 9)) = zs[1]? := hk 1 _ rfl
      have k2 : DataW.trod enc Try.prog W 0 spare true n'' 3 (([c3, c4, c5].drop 2).take (Try.prog.cellsOf 3)) = zs[2]? := hk 2 _ rfl
      have hzl3 : zs.length = 3 := hzl
      rw [cellsInt, List.getElem?_eq_getElem (by omega)] at k0 k2
      rw [cellsStr, List.getElem?_eq_getElem (by omega)] at k1
      simp only [List.drop_succ_cons, List.drop_zero, List.take_succ_cons, List.take_zero] at k0 k1 k2
      obtain ⟨s3, e3, _, _⟩ := DataW.trod_int Try.underlying3 k0
      obtain ⟨s4, e4, _, w4⟩ := DataW.trod_string Try.underlying9 k1
      obtain ⟨s5, e5, _, _⟩ := DataW.trod_int Try.underlying3 k2
      simp at e0 e1 e2 e3 e4 e5
      subst e0 e1 e2 e3 e4 e5
      refine ⟨⟨s0, s1, s2, ⟨s3, s4, s5⟩⟩, w4, fun j v hj => ?_⟩
      have hat' : ∀ j, j < 6 → W.cell? (a'.add (i * 6 + j)) = [Value.int .i64 s0, .int .i64 s1, .int .i64 s2, .int .i64 s3, .string s4, .int .i64 s5][j]? := fun j hj => by
        rw [← Go.Deep.add_add, ← cellsP]
        exact hat j hj
      have hj6 : j < 6 := by
        rcases Nat.lt_or_ge j 6 with h1 | h1
        · exact h1
        · rw [List.getElem?_eq_none (by show 6 ≤ j; exact h1)] at hj
          cases hj
      exact (hat' j hj6).trans hj
    obtain ⟨xs, h1, h2, h3⟩ := list_of encP_len (by omega) _ a' len hh
    exact ⟨xs, h1, h3, h2, hl, hm⟩

end Go.Proofs.Ytbiajkknpkeeoaa
