/- How a deduction that came in by value is opened. Conditions: as stated. -/
import Derived.Test.YtcpkdpflkjjlcaaOpenD
namespace Go.Proofs.Ytcpkdpflkjjlcaa
open Go.ChangeShapes Go.WideShapes Go.ChangeAt Go.RowKit Go.Deep

section
variable {H : Type} {enc : TypeId × Value → H} {P : Program} {w : World} {base : Nat} {spare : Nat → Bool} {held : Bool}
theorem trod_fields {t : TypeId} {fs : Array Field} {fuel : Nat} {cs : List Value} {x : DataW H × List MemPlace} (hs : P.underlying t = some (.struct fs)) (hone : oneCellFields P fs = true) (h : DataW.trod enc P w base spare held fuel t cs = some x) (j : Nat) (f : Field) (hj : fs[j]? = some f) (c : Value) (hc : cs[j]? = some c) :
    ∃ n y, DataW.trod enc P w base spare held n f.type [c] = some y := by
  obtain ⟨xs, n, _, _, _, hlen, hg⟩ := DataW.trod_struct hs h
  obtain ⟨ho, hk⟩ := hone_of hone j f hj
  have h1 := hg j f hj
  have hjl : j < fs.size := (Array.getElem?_eq_some_iff.1 hj).1
  have hcl : j < cs.length := (List.getElem?_eq_some_iff.1 hc).1
  have hce : cs[j] = c := (List.getElem?_eq_some_iff.1 hc).2
  rw [ho, hk, List.drop_eq_getElem_cons hcl, hce] at h1
  have hx : xs[j]? = some (xs[j]'(by omega)) := List.getElem?_eq_getElem (by omega)
  exact ⟨n, _, h1.trans hx⟩
end
theorem array_6 {α : Type} {cs : Array α} (h : cs.size = 6) : ∃ c0 c1 c2 c3 c4 c5, cs = #[c0, c1, c2, c3, c4, c5] := by
  obtain ⟨l⟩ := cs
  match l, h with
  | [c0, c1, c2, c3, c4, c5], _ => exact ⟨c0, c1, c2, c3, c4, c5, rfl⟩

set_option maxRecDepth 100000 in
theorem openDv {H : Type} {enc : TypeId × Value → H} {W : World} {spare : Nat → Bool} {r : Reach} {b0 : Nat} {v : Value} {d : DataW H} {p : List MemPlace} (hv : Value.okWide Try.prog W r b0 33 v) (h : DataW.Trod enc Try.prog W 0 spare true 33 v d p) :
    ∃ x : DedT, v = .agg #[.string x.code, .int .i64 x.rank, .bool x.before, .int .i64 x.amount, .int .i64 x.rate, .int .i64 x.cap] ∧ x.code.size ≤ maxLen ∧ I64 x.rank ∧ I64 x.amount ∧ I64 x.rate ∧ I64 x.cap := by
  obtain ⟨cs, rfl, hsz⟩ := okWide_struct Try.underlying33 hv
  have hC : Try.prog.cellsOf 33 = 6 := by kernel_rfl
  rw [hC] at hsz
  have hone := (show oneCellFields Try.prog (Try.prog.fieldsOf 33) = true by kernel_rfl)
  rw [show Try.prog.fieldsOf 33 = _ from (by unfold Program.fieldsOf; rw [Try.underlying33])] at hone
  obtain ⟨c0, c1, c2, c3, c4, c5, rfl⟩ := array_6 hsz
  obtain ⟨fuel, hf⟩ := h
  obtain ⟨n0, y0, t0⟩ := trod_fields Try.underlying33 hone hf 0 _ rfl c0 rfl
  obtain ⟨s0, e0, _, w0⟩ := DataW.trod_string Try.underlying9 t0
  simp only [List.cons.injEq, and_true] at e0
  subst e0
  obtain ⟨n1, y1, t1⟩ := trod_fields Try.underlying33 hone hf 1 _ rfl c1 rfl
  obtain ⟨s1, e1, _, w1⟩ := DataW.trod_int Try.underlying3 t1
  simp only [List.cons.injEq, and_true] at e1
  subst e1
  obtain ⟨n2, y2, t2⟩ := trod_fields Try.underlying33 hone hf 2 _ rfl c2 rfl
  obtain ⟨s2, e2, _⟩ := DataW.trod_bool Try.underlying4 t2
  simp only [List.cons.injEq, and_true] at e2
  subst e2
  obtain ⟨n3, y3, t3⟩ := trod_fields Try.underlying33 hone hf 3 _ rfl c3 rfl
  obtain ⟨s3, e3, _, w3⟩ := DataW.trod_int Try.underlying3 t3
  simp only [List.cons.injEq, and_true] at e3
  subst e3
  obtain ⟨n4, y4, t4⟩ := trod_fields Try.underlying33 hone hf 4 _ rfl c4 rfl
  obtain ⟨s4, e4, _, w4⟩ := DataW.trod_int Try.underlying3 t4
  simp only [List.cons.injEq, and_true] at e4
  subst e4
  obtain ⟨n5, y5, t5⟩ := trod_fields Try.underlying33 hone hf 5 _ rfl c5 rfl
  obtain ⟨s5, e5, _, w5⟩ := DataW.trod_int Try.underlying3 t5
  simp only [List.cons.injEq, and_true] at e5
  subst e5
  exact ⟨⟨s0, s1, s2, s3, s4, s5⟩, rfl, w0, wf_I64 w1, wf_I64 w3, wf_I64 w4, wf_I64 w5⟩

end Go.Proofs.Ytcpkdpflkjjlcaa
