/- Entries as keys of a map: their literals. Conditions: as stated. -/
import Derived.Test.YtbiajkknpkeeoaaMapK
import Derived.Test.YtbiajkknpkeeoaaBk
import Derived.DeepKeys4
namespace Go.Proofs.Ytbiajkknpkeeoaa
open Go.RowKit Go.Maps Go.WideMaps Go.WideElems Go.ChangeMaps

def litB (c : KeyB) : Lit := .string (keyBytes [.int .i64 c.1, .int .i64 c.2.1, .int .i64 c.2.2])
def goodB (c : KeyB) : Prop := (Lit.int .i64 c.1).wf = true ∧ (Lit.int .i64 c.2.1).wf = true ∧ (Lit.int .i64 c.2.2).wf = true
theorem lawB : KeyLaw Try.prog 42 := deep_law_laid (m := 3) (by kernel_rfl) (by omega) (of_decide_eq_true (by kernel_rfl)) (by kernel_rfl) (by kernel_rfl)
theorem keyB (c : KeyB) (h : goodB c) : keyOf Try.prog 42 (.agg #[.int .i64 c.1, .int .i64 c.2.1, .int .i64 c.2.2]) = some (litB c) := by
  obtain ⟨a, b, m⟩ := c
  obtain ⟨h1, h2, h3⟩ := h
  simp only at h1 h2 h3
  have c1 : Try.prog.cellsOf 42 = 3 := by kernel_rfl
  have c2 : Try.prog.cellsOf 3 = 1 := by kernel_rfl
  have kt : Try.prog.keyType 42 = true := by kernel_rfl
  have hl : ∀ d, Try.prog.keyLits (d + 1 + 1) 42 [.int .i64 a, .int .i64 b, .int .i64 m] = some [.int .i64 a, .int .i64 b, .int .i64 m] := fun d => by
    simp [Program.keyLits, Try.underlying42, Try.underlying3, c1, c2, h1, h2, h3]
  have hts : 1 ≤ Try.prog.types.size := of_decide_eq_true (by kernel_rfl)
  unfold keyOf
  simp only [Try.underlying42, kt, Bool.true_and, Value.formed, c1]
  generalize Try.prog.types.size = ts at hts ⊢
  obtain ⟨d, rfl⟩ : ∃ d, ts = d + 1 := ⟨ts - 1, by omega⟩
  simp only [Value.cells, hl, litB]
  rfl
theorem klI {P : Program} {d : Nat} {t : TypeId} {a : Value} {la : List Lit} (ht : P.underlying t = some (.int .i64)) (h : P.keyLits (d + 1) t [a] = some la) : ∃ k : Int, a = .int .i64 k ∧ (Lit.int .i64 k).wf = true ∧ la = [.int .i64 k] := by
  unfold Program.keyLits at h
  simp only [ht] at h
  cases a <;> simp only [reduceCtorEq] at h
  split at h
  · rename_i q n hq
    obtain ⟨rfl, hw⟩ := hq
    injection h with h
    exact ⟨_, rfl, hw, h.symm⟩
  · cases h
set_option maxRecDepth 100000 in
theorem keyB_inv {v : Value} {l : Lit} (h : keyOf Try.prog 42 v = some l) : ∃ c : KeyB, v = .agg #[.int .i64 c.1, .int .i64 c.2.1, .int .i64 c.2.2] ∧ goodB c ∧ l = litB c := by
  obtain ⟨xs, L, rfl, hL, rfl⟩ := keyOf_top (by kernel_rfl) h
  have c1 : Try.prog.cellsOf 42 = 3 := by kernel_rfl
  have c2 : Try.prog.cellsOf 3 = 1 := by kernel_rfl
  have hts : 1 ≤ Try.prog.types.size := of_decide_eq_true (by kernel_rfl)
  generalize Try.prog.types.size = ts at hts hL
  obtain ⟨d, rfl⟩ : ∃ d, ts = d + 1 := ⟨ts - 1, by omega⟩
  unfold Program.keyLits at hL
  simp only [Try.underlying42, c1] at hL
  split at hL
  · rename_i hlen
    obtain ⟨hlen, _⟩ := hlen
    generalize hys : xs.toList = ys at hL hlen
    obtain ⟨a, b, m, rfl⟩ : ∃ a b m, ys = [a, b, m] := by
      rcases ys with _ | ⟨a, _ | ⟨b, _ | ⟨c, _ | ⟨q, ys⟩⟩⟩⟩
      · simp at hlen
      · simp at hlen
      · simp at hlen
      · exact ⟨a, b, c, rfl⟩
      · simp at hlen
    have hxs : xs = #[a, b, m] := by rw [← hys]
    simp [c2] at hL
    simp only [Function.comp, Option.map_eq_some_iff, Option.bind_eq_some_iff, Option.some.injEq] at hL
    obtain ⟨la, hla, q, ⟨q2, ⟨lb, hlb, q3, ⟨lc, hlc, rfl⟩, rfl⟩, rfl⟩, rfl⟩ := hL
    obtain ⟨k1, rfl, hw1, rfl⟩ := klI Try.underlying3 hla
    obtain ⟨k2, rfl, hw2, rfl⟩ := klI Try.underlying3 hlb
    obtain ⟨k3, rfl, hw3, rfl⟩ := klI Try.underlying3 hlc
    exact ⟨(k1, k2, k3), by rw [hxs], ⟨hw1, hw2, hw3⟩, rfl⟩
  · cases hL
theorem agg3_inj {a b c d e f : Value} (h : Value.agg #[a, b, c] = Value.agg #[d, e, f]) : a = d ∧ b = e ∧ c = f := by simpa using h
set_option maxRecDepth 100000 in
theorem keyGB : KeyG litB goodB where
  lit c _ := trivial
  inj c d hc hd e := by
    have h1 := keyB c hc
    have h2 := keyB d hd
    rw [← e] at h2
    have := lawB.inj h1 h2
    obtain ⟨h3, h4, h5⟩ := agg3_inj this
    injection h3 with _ h3
    injection h4 with _ h4
    injection h5 with _ h5
    exact Prod.ext h3 (Prod.ext h4 h5)

end Go.Proofs.Ytbiajkknpkeeoaa
