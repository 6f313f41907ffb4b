/- Plain laws: the bases of a list and those of its sums are the same. Conditions: none. -/
import Derived.Test.YtlfefcfddpmccaaOf
namespace Go.Proofs.Ytlfefcfddpmccaa
open Go.RowKit

def condS (p : ByteArray → Bool) : List Elem → Int
  | [] => 0
  | x :: l => (if p x.code = true then x.amount else 0) + condS p l
theorem condS_append (p : ByteArray → Bool) (l m : List Elem) : condS p (l ++ m) = condS p l + condS p m := by
  induction l with
  | nil => simp [condS]
  | cons a l ih => simp only [List.cons_append, condS, ih]; omega
theorem condS_put (p : ByteArray → Bool) (l : List Elem) (e : Elem) : condS p (put l e) = condS p l + if p e.code = true then e.amount else 0 := by
  induction l with
  | nil => simp [put, condS]
  | cons a l ih =>
    rw [put]
    split
    · simp only [condS, ih]; omega
    · split
      · rename_i h
        have h' : a.code = e.code := by
          apply code_ext
          rw [ByteArray.toList_eq, ByteArray.toList_eq] at h; simpa using h
        simp only [condS, h']
        split <;> omega
      · simp only [condS]; omega
theorem condS_foldl (p : ByteArray → Bool) (l : List Elem) : ∀ acc, condS p (l.foldl put acc) = condS p acc + condS p l := by
  induction l with
  | nil => intro acc; simp [condS]
  | cons a l ih => intro acc; rw [List.foldl_cons, ih, condS_put]; simp only [condS]; omega
theorem condS_sums (p : ByteArray → Bool) (l : List Elem) : condS p (sumsP l) = condS p l := by
  rw [sumsP, condS_foldl]; simp [condS]
def wageAt (ws : List WageT) (c : ByteArray) : WageT := (findW ws c).getD zeroW
theorem foldl_stepB (ws : List WageT) (l : List Elem) : ∀ b : BasesT, l.foldl (stepB ws) b = ⟨b.g + condS (fun _ => true) l, b.c + condS (fun c => decide ((wageAt ws c).kind = 1)) l, b.t + condS (fun c => (wageAt ws c).taxable) l, b.i + condS (fun c => (wageAt ws c).insured) l, b.a + condS (fun c => (wageAt ws c).attachable) l⟩ := by
  induction l with
  | nil => intro b; simp [condS]
  | cons x l ih =>
    intro b
    rw [List.foldl_cons, ih]
    simp only [stepB, addB, condS, wageAt, if_true, Int.add_assoc]
    by_cases hk : ((findW ws x.code).getD zeroW).kind = 1 <;> simp [hk] <;> (refine ⟨?_, ?_, ?_⟩ <;> congr)
theorem sumB_eq (ws : List WageT) (l : List Elem) : sumB ws l = ⟨condS (fun _ => true) l, condS (fun c => decide ((wageAt ws c).kind = 1)) l, condS (fun c => (wageAt ws c).taxable) l, condS (fun c => (wageAt ws c).insured) l, condS (fun c => (wageAt ws c).attachable) l⟩ := by
  rw [sumB, foldl_stepB]; simp [zeroB]
theorem sumB_sums (ws : List WageT) (l : List Elem) : sumB ws (sumsP l) = sumB ws l := by
  rw [sumB_eq, sumB_eq]; simp only [condS_sums]
theorem missing_sums (ws : List WageT) (l : List Elem) : missing ws (sumsP l) = missing ws l := by
  rw [Bool.eq_iff_iff, missing, missing, List.any_eq_true, List.any_eq_true]
  constructor
  · rintro ⟨x, hx, h⟩
    obtain ⟨y, hy, e⟩ := sumsP_codes hx
    exact ⟨y, hy, by rw [e]; exact h⟩
  · rintro ⟨y, hy, h⟩
    have hk : keyE (sumsP l) y.code.data.toList = true := by
      rw [sumsP_key]; exact List.any_eq_true.2 ⟨y, hy, by simp⟩
    obtain ⟨x, hx, e⟩ := List.any_eq_true.1 hk
    have e' : x.code = y.code := code_ext (by simpa using e)
    exact ⟨x, hx, by rw [e']; exact h⟩
theorem ofV_sums (ws : List WageT) (l : List Elem) : ofV ws l (sumsP l) = ofV ws l l := by
  have h : ofErr ws l (sumsP l) = ofErr ws l l := by simp only [ofErr, sumB_sums, missing_sums]
  rw [ofV, ofV, h, sumB_sums]

end Go.Proofs.Ytlfefcfddpmccaa
