/- Plain definitions for Entries: books, entries of a posting, of a book. Conditions: none. -/
import Derived.Test.YtbiajkknpkeeoaaBk
import Derived.Test.YtbiajkknpkeeoaaWage3
import Derived.Test.YtbiajkknpkeeoaaLine2
namespace Go.Proofs.Ytbiajkknpkeeoaa
open Go.RowKit

def validP (p : PostT) : Bool := (decide (1 ≤ p.run) && decide (p.run ≤ 256)) && ((decide (1 ≤ p.employee) && decide (p.employee ≤ 2147483647)) && ((decide (0 ≤ p.period) && decide (p.period ≤ 84005)) && formZ p.line))
def ascB (xs : List PostT) : Bool := decide (∀ i, (hi : i < xs.length - 1) → (xs[i]'(by omega)).run ≤ (xs[i + 1]'(by omega)).run)
theorem ascB_iff (xs : List PostT) : ascB xs = true ↔ ∀ i, (hi : i + 1 < xs.length) → xs[i].run ≤ xs[i + 1].run := by
  unfold ascB
  rw [decide_eq_true_eq]
  exact ⟨fun h i hi => h i (by omega), fun h i hi => h i (by omega)⟩
def bookB (xs : List PostT) : Bool := decide (xs.length ≤ 65536) && (ascB xs && xs.all validP)
theorem validP_iff (p : PostT) : validP p = true ↔ (1 ≤ p.run ∧ p.run ≤ 256) ∧ (1 ≤ p.employee ∧ p.employee ≤ 2147483647) ∧ (0 ≤ p.period ∧ p.period ≤ 84005) ∧ formZ p.line = true := by simp [validP]
theorem validP_amt {p : PostT} (h : validP p = true) : -1000000000000 ≤ p.line.amount ∧ p.line.amount ≤ 1000000000000 := by
  have := ((validP_iff p).1 h).2.2.2
  simp [formZ, formB, maxN] at this
  omega
theorem bookB_iff (xs : List PostT) : bookB xs = true ↔ xs.length ≤ 65536 ∧ (∀ i, (hi : i + 1 < xs.length) → xs[i].run ≤ xs[i + 1].run) ∧ ∀ x ∈ xs, validP x = true := by
  simp only [bookB, Bool.and_eq_true, decide_eq_true_eq, ascB_iff, List.all_eq_true]

def entsK (k r a : Int) : List BookT :=
  if k = 3 then [⟨r, 106, -a⟩] else if k = 4 then [⟨r, 103, -a⟩] else if k = 5 then [⟨r, 104, a⟩, ⟨r, 103, -a⟩] else if k = 6 then [⟨r, 102, -a⟩] else if k = 7 then [⟨r, 105, -a⟩] else if k = 8 then [⟨r, 107, -a⟩] else if k = 9 then [⟨r, 100, -a⟩] else if k = 10 then [⟨r, 101, a⟩] else []
def entOf (ws : List WageT) (p : PostT) : List BookT := if p.line.kind = 1 then (match findW ws p.line.code with | some t => [⟨p.run, t.account, p.line.amount⟩] | none => []) else entsK p.line.kind p.run p.line.amount
def entMiss (ws : List WageT) (p : PostT) : Bool := decide (p.line.kind = 1) && (findW ws p.line.code).isNone
def entAll (ws : List WageT) (l : List PostT) : List BookT := l.flatMap (entOf ws)
def eErr (ws : List WageT) (l : List PostT) : Int := if validB ws = false then 1 else if bookB l = false then 1 else if l.any (entMiss ws) then 16 else mErrB (entAll ws l)
def eRes (ws : List WageT) (l : List PostT) : List BookT := if eErr ws l = 0 then mRB (entAll ws l) else []
theorem eErr_1 {ws : List WageT} {l : List PostT} (h : validB ws = false ∨ bookB l = false) : eErr ws l = 1 := by
  unfold eErr
  rcases h with h | h
  · rw [if_pos h]
  · rw [if_pos h]; split <;> rfl
theorem eErr_16 {ws : List WageT} {l : List PostT} (h1 : validB ws = true) (h2 : bookB l = true) (h : l.any (entMiss ws) = true) : eErr ws l = 16 := by
  unfold eErr
  rw [if_neg (by simp [h1]), if_neg (by simp [h2]), if_pos h]
theorem eErr_m {ws : List WageT} {l : List PostT} (h1 : validB ws = true) (h2 : bookB l = true) (h : l.any (entMiss ws) = false) : eErr ws l = mErrB (entAll ws l) := by
  unfold eErr
  rw [if_neg (by simp [h1]), if_neg (by simp [h2]), if_neg (by simp [h])]
theorem eRes_no {ws : List WageT} {l : List PostT} {n : Int} (h : eErr ws l = n) (hn : n ≠ 0) : eRes ws l = [] := by rw [eRes, if_neg (by rw [h]; exact hn)]
theorem eRes_m {ws : List WageT} {l : List PostT} (h : eErr ws l = mErrB (entAll ws l)) : eRes ws l = mRB (entAll ws l) := by
  unfold eRes
  split
  · rfl
  · rename_i hh
    rw [h] at hh
    rw [mRB, if_neg hh]
theorem entsK_len (k r a : Int) : (entsK k r a).length ≤ 2 := by
  unfold entsK
  repeat (split; · simp)
  simp
theorem entOf_len (ws : List WageT) (p : PostT) : (entOf ws p).length ≤ 2 := by
  unfold entOf
  split
  · split <;> simp
  · exact entsK_len _ _ _
theorem entAll_len (ws : List WageT) (l : List PostT) : (entAll ws l).length ≤ 2 * l.length := by
  induction l with
  | nil => simp [entAll]
  | cons a l ih =>
    have := entOf_len ws a
    simp only [entAll, List.flatMap_cons, List.length_append, List.length_cons] at ih ⊢
    omega
theorem entAll_take (ws : List WageT) (l : List PostT) (k : Nat) (h : k < l.length) : entAll ws (l.take (k + 1)) = entAll ws (l.take k) ++ entOf ws l[k] := by
  rw [List.take_succ_eq_append_getElem h]
  unfold entAll
  rw [List.flatMap_append]
  simp only [List.flatMap_cons, List.flatMap_nil, List.append_nil]
/-- Entries are handed back, and whether a wage type was there. -/
def EntPost (ws : List WageT) (p : PostT) (w : World) (e : Ending) (w' : World) : Prop :=
  ∃ v, e = .returned (.tuple #[v, .bool (!entMiss ws p)]) ∧ (entMiss ws p = false → ∃ A c, v = .slice A (entOf ws p).length c ∧ SliceOf encB 3 w' w'.heap.size A (entOf ws p)) ∧ Below w.heap.size w w'

end Go.Proofs.Ytbiajkknpkeeoaa
