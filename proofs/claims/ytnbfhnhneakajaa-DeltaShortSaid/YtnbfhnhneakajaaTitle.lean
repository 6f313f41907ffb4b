/- Titles as keys of a map: their literals. Conditions: as stated. -/
import Derived.Test.YtnbfhnhneakajaaMapK
import Derived.Test.YtnbfhnhneakajaaLine
import Derived.DeepKeys4
namespace Go.Proofs.Ytnbfhnhneakajaa
open Go.RowKit Go.Maps Go.WideMaps Go.WideElems Go.ChangeMaps

def litT (c : Int × List UInt8) : Lit := .string (keyBytes [.int .i64 c.1, .string c.2])
def goodT (c : Int × List UInt8) : Prop := (Lit.int .i64 c.1).wf = true ∧ c.2.length ≤ maxLen
theorem lawT : KeyLaw Try.prog 79 := deep_law_laid (m := 3) (by kernel_rfl) (by omega) (of_decide_eq_true (by kernel_rfl)) (by kernel_rfl) (by kernel_rfl)
theorem keyT (k : Int) (s : ByteArray) (h : goodT (k, s.data.toList)) : keyOf Try.prog 79 (.agg #[.int .i64 k, .string s]) = some (litT (k, s.data.toList)) := by
  obtain ⟨h1, h2⟩ := h
  have hs : s.size ≤ maxLen := by simpa using h2
  have c1 : Try.prog.cellsOf 79 = 2 := by kernel_rfl
  have c2 : Try.prog.cellsOf 3 = 1 := by kernel_rfl
  have c3 : Try.prog.cellsOf 9 = 1 := by kernel_rfl
  have kt : Try.prog.keyType 79 = true := by kernel_rfl
  have hl : ∀ d, Try.prog.keyLits (d + 1 + 1) 79 [.int .i64 k, .string s] = some [.int .i64 k, .string s.data.toList] := fun d => by
    simp [Program.keyLits, Try.underlying79, Try.underlying3, Try.underlying9, c1, c2, c3, h1, hs]
  have hts : 1 ≤ Try.prog.types.size := of_decide_eq_true (by kernel_rfl)
  unfold keyOf
  simp only [Try.underlying79, kt, Bool.true_and, Value.formed, c1]
  generalize Try.prog.types.size = ts at hts ⊢
  obtain ⟨d, rfl⟩ : ∃ d, ts = d + 1 := ⟨ts - 1, by omega⟩
  simp only [Value.cells, hl, litT]
  rfl
theorem klI {P : Program} {d : Nat} {t : TypeId} {a : Value} {la : List Lit} (ht : P.underlying t = some (.int .i64)) (h : P.keyLits (d + 1) t [a] = some la) : ∃ k : Int, a = .int .i64 k ∧ (Lit.int .i64 k).wf = true ∧ la = [.int .i64 k] := by
  unfold Program.keyLits at h
  simp only [ht] at h
  cases a <;> simp only [reduceCtorEq] at h
  split at h
  · rename_i q n hq
    obtain ⟨rfl, hw⟩ := hq
    injection h with h
    exact ⟨_, rfl, hw, h.symm⟩
  · cases h
theorem klS {P : Program} {d : Nat} {t : TypeId} {a : Value} {la : List Lit} (ht : P.underlying t = some .string) (h : P.keyLits (d + 1) t [a] = some la) : ∃ s : ByteArray, a = .string s ∧ s.size ≤ maxLen ∧ la = [.string s.data.toList] := by
  unfold Program.keyLits at h
  simp only [ht] at h
  cases a <;> simp only [reduceCtorEq] at h
  split at h
  · rename_i s hs
    injection h with h
    exact ⟨_, rfl, hs, h.symm⟩
  · cases h
theorem keyT_inv {v : Value} {l : Lit} (h : keyOf Try.prog 79 v = some l) : ∃ (k : Int) (s : ByteArray), v = .agg #[.int .i64 k, .string s] ∧ goodT (k, s.data.toList) ∧ l = litT (k, s.data.toList) := by
  obtain ⟨xs, L, rfl, hL, rfl⟩ := keyOf_top (by kernel_rfl) h
  have c1 : Try.prog.cellsOf 79 = 2 := by kernel_rfl
  have c2 : Try.prog.cellsOf 3 = 1 := by kernel_rfl
  have c3 : Try.prog.cellsOf 9 = 1 := by kernel_rfl
  have hts : 1 ≤ Try.prog.types.size := of_decide_eq_true (by kernel_rfl)
  generalize Try.prog.types.size = ts at hts hL
  obtain ⟨d, rfl⟩ : ∃ d, ts = d + 1 := ⟨ts - 1, by omega⟩
  unfold Program.keyLits at hL
  simp only [Try.underlying79, c1] at hL
  split at hL
  · rename_i hlen
    obtain ⟨hlen, _⟩ := hlen
    generalize hys : xs.toList = ys at hL hlen
    obtain ⟨a, b, rfl⟩ : ∃ a b, ys = [a, b] := by
      rcases ys with _ | ⟨a, _ | ⟨b, _ | ⟨c, ys⟩⟩⟩
      · simp at hlen
      · simp at hlen
      · exact ⟨a, b, rfl⟩
      · simp at hlen
    have hxs : xs = #[a, b] := by rw [← hys]
    simp [c2, c3] at hL
    rw [Option.bind_eq_some_iff] at hL
    obtain ⟨la, hla, hL⟩ := hL
    simp only [Function.comp, Option.map_eq_some_iff, Option.bind_eq_some_iff, Option.some.injEq] at hL
    obtain ⟨q, ⟨q2, ⟨lb, hlb, rfl⟩, rfl⟩, rfl⟩ := hL
    obtain ⟨k, rfl, hw, rfl⟩ := klI Try.underlying3 hla
    obtain ⟨s, rfl, hs, rfl⟩ := klS Try.underlying9 hlb
    exact ⟨k, s, by rw [hxs], ⟨hw, by simpa using hs⟩, rfl⟩
  · cases hL

theorem ba_of (l : List UInt8) : (⟨l.toArray⟩ : ByteArray).data.toList = l := rfl
theorem agg2_inj {a b c d : Value} (h : Value.agg #[a, b] = Value.agg #[c, d]) : a = c ∧ b = d := by simpa using h
theorem keyGT : KeyG litT goodT where
  lit c _ := trivial
  inj c d hc hd e := by
    obtain ⟨k, l⟩ := c
    obtain ⟨k', l'⟩ := d
    have h1 := keyT k ⟨l.toArray⟩ hc
    have h2 := keyT k' ⟨l'.toArray⟩ hd
    rw [ba_of] at h1 h2
    rw [← e] at h2
    have := lawT.inj h1 h2
    have h34 := agg2_inj this
    clear h1 h2 this hc hd e
    obtain ⟨h3, h4⟩ := h34
    injection h3 with _ h3
    injection h4 with h4
    have h5 := congrArg (fun x : ByteArray => x.data.toList) h4
    rw [h3, show l = l' from h5]

end Go.Proofs.Ytnbfhnhneakajaa
