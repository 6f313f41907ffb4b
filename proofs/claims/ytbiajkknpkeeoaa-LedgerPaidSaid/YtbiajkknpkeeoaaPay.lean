/- Payments: the type, what control.Of and Paid hand back. Plain definitions and laws. Conditions: as stated. -/
import Derived.Test.YtbiajkknpkeeoaaMergeB
import Derived.Test.YtbiajkknpkeeoaaLimP
import Derived.StillTailTactics
namespace Go.Proofs.Ytbiajkknpkeeoaa
open Go.RowKit

structure PayT where
  number : Int
  amount : Int
deriving DecidableEq
def encM (x : PayT) : List Value := [.int .i64 x.number, .int .i64 x.amount]
theorem encM_len (x : PayT) : (encM x).length = 2 := rfl
theorem encM_one (x : PayT) : ∀ u ∈ encM x, u.oneCell' = true := by intro u hu; simp [encM] at hu; rcases hu with rfl | rfl <;> rfl
def aggM (x : PayT) : Value := .agg #[.int .i64 x.number, .int .i64 x.amount]
theorem infoM : (Try.prog.info? 78).map (fun i => (i.zero, i.size, i.bytes)) = some (some (.agg #[.int .i64 0, .int .i64 0]), 2, 16) := by kernel_rfl

def okM (x : PayT) : Bool := (decide (1 ≤ x.number) && decide (x.number ≤ 2147483647)) && (decide (1 ≤ x.amount) && decide (x.amount ≤ 1000000000000))
theorem okM_iff (x : PayT) : okM x = true ↔ (1 ≤ x.number ∧ x.number ≤ 2147483647) ∧ 1 ≤ x.amount ∧ x.amount ≤ 1000000000000 := by simp [okM, and_assoc]
def sumA : List PayT → Int
  | [] => 0
  | x :: l => x.amount + sumA l
def sumN : List PayT → Int
  | [] => 0
  | x :: l => x.number + sumN l
theorem sumA_append (l m : List PayT) : sumA (l ++ m) = sumA l + sumA m := by
  induction l with
  | nil => simp [sumA]
  | cons a l ih => simp [sumA, ih]; omega
theorem sumN_append (l m : List PayT) : sumN (l ++ m) = sumN l + sumN m := by
  induction l with
  | nil => simp [sumN]
  | cons a l ih => simp [sumN, ih]; omega
theorem sumA_take (l : List PayT) (k : Nat) (h : k < l.length) : sumA (l.take (k + 1)) = sumA (l.take k) + l[k].amount := by
  rw [List.take_succ_eq_append_getElem h, sumA_append]; simp [sumA]
theorem sumN_take (l : List PayT) (k : Nat) (h : k < l.length) : sumN (l.take (k + 1)) = sumN (l.take k) + l[k].number := by
  rw [List.take_succ_eq_append_getElem h, sumN_append]; simp [sumN]
theorem sumA_pos (l : List PayT) (h : ∀ x ∈ l, okM x = true) : (l.length : Int) ≤ sumA l := by
  induction l with
  | nil => simp [sumA]
  | cons a l ih =>
    have h1 := ih (fun x hx => h x (by simp [hx]))
    have h2 := (okM_iff a).1 (h a (by simp))
    simp only [sumA, List.length_cons]
    omega
def ctlErr (l : List PayT) : Int := if 4096 < l.length then 3 else if l.all okM then 0 else 2
def ctlV (l : List PayT) : Value := .tuple #[.agg (if ctlErr l = 0 then #[.int .i64 l.length, .int .i64 (sumA l), .int .i64 (sumN l)] else #[.int .i64 0, .int .i64 0, .int .i64 0]), .int .i64 (ctlErr l)]
theorem ctl_3 {l : List PayT} (h : 4096 < l.length) : ctlErr l = 3 := by rw [ctlErr, if_pos h]
theorem ctl_2 {l : List PayT} (h : ¬ 4096 < l.length) {k : Nat} (hk : k < l.length) (hx : okM l[k] = false) : ctlErr l = 2 := by
  rw [ctlErr, if_neg h, if_neg]
  intro h1
  rw [List.all_eq_true.1 h1 _ (List.getElem_mem hk)] at hx
  cases hx
theorem ctl_0 {l : List PayT} (h : ¬ 4096 < l.length) (hx : ∀ j, (hj : j < l.length) → j < l.length → okM l[j] = true) : ctlErr l = 0 := by
  rw [ctlErr, if_neg h, if_pos]
  rw [List.all_eq_true]
  intro x hm
  obtain ⟨i, hi, rfl⟩ := List.getElem_of_mem hm
  exact hx i hi hi
theorem ctl_all {l : List PayT} (h : ctlErr l = 0) : ∀ x ∈ l, okM x = true := by
  rw [ctlErr] at h
  split at h
  · cases h
  · split at h
    · rename_i h1; exact fun x hx => List.all_eq_true.1 h1 x hx
    · cases h
theorem ctlV_0 {l : List PayT} (h : ctlErr l = 0) : ctlV l = .tuple #[.agg #[.int .i64 l.length, .int .i64 (sumA l), .int .i64 (sumN l)], .int .i64 0] := by rw [ctlV, h, if_pos rfl]
theorem ctlV_n {l : List PayT} {n : Int} (h : ctlErr l = n) (hn : n ≠ 0) : ctlV l = .tuple #[.agg #[.int .i64 0, .int .i64 0, .int .i64 0], .int .i64 n] := by rw [ctlV, h, if_neg hn]

def paidErr (run : Int) (l : List PayT) : Int := if run < 0 ∨ 256 < run then 2 else if ctlErr l ≠ 0 then ctlErr l else if 1000000000000 < sumA l then 4 else 0
def paidR (run : Int) (l : List PayT) : List BookT := if paidErr run l = 0 then (if l.length = 0 then [] else [⟨run, 100, sumA l⟩, ⟨run, 108, -sumA l⟩]) else []
theorem paidR_no {run : Int} {l : List PayT} {n : Int} (h : paidErr run l = n) (hn : n ≠ 0) : paidR run l = [] := by rw [paidR, if_neg (by rw [h]; exact hn)]
theorem paidR_len (run : Int) (l : List PayT) : (paidR run l).length ≤ 2 := by
  rw [paidR]; split
  · split <;> simp
  · simp

theorem two_bal (r S : Int) (hr : 0 ≤ r) (hr2 : r ≤ 256) (hS1 : 1 ≤ S) (hS2 : S ≤ 1000000000000) : balB [⟨r, 100, S⟩, ⟨r, 108, -S⟩] = true := by
  have hok : ([⟨r, 100, S⟩, ⟨r, 108, -S⟩] : List BookT).all okB = true := by
    rw [List.all_eq_true]
    intro x hx
    simp only [List.mem_cons, List.not_mem_nil, or_false] at hx
    rcases hx with rfl | rfl <;> rw [okB_iff] <;> refine ⟨⟨hr, hr2⟩, ⟨?_, ?_⟩, ?_, ?_⟩ <;> dsimp only <;> omega
  have hs : RB.sums [⟨r, 100, S⟩, ⟨r, 108, -S⟩] = [⟨r, 100, S⟩, ⟨r, 108, -S⟩] := by
    simp [Rec.sums, Rec.put, RB, ltB]
  have hE : mErrB [⟨r, 100, S⟩, ⟨r, 108, -S⟩] = 0 := by
    rw [mErrB_4 (by simp) hok, hs]
    have h1 : maxN S = true := by simp [maxN]; omega
    have h2 : maxN (-S) = true := by simp [maxN]; omega
    simp [overB, h1, h2]
  have hf : List.filter RB.nz [⟨r, 100, S⟩, ⟨r, 108, -S⟩] = [⟨r, 100, S⟩, ⟨r, 108, -S⟩] := by
    rw [List.filter_eq_self]
    intro x hx
    refine (Rec.mem_nz x).2 ?_
    simp only [List.mem_cons, List.not_mem_nil, or_false] at hx
    rcases hx with rfl | rfl
    · show S ≠ 0; omega
    · show -S ≠ 0; omega
  rw [balB, if_pos hE, mRB_ok hE, hs, hf]
  simp only [balL, runTot, List.all_cons, List.all_nil, if_true, Bool.and_true, Bool.and_eq_true, beq_iff_eq]
  omega
theorem paid_bal (run : Int) (l : List PayT) : balB (paidR run l) = true := by
  have h0 : balB [] = true := by decide +kernel
  by_cases h : paidErr run l = 0
  · rw [paidR, if_pos h]
    split
    · exact h0
    · rename_i hne
      rw [paidErr] at h
      split at h
      · cases h
      · rename_i hr
        split at h
        · rename_i hc; exact absurd h hc
        · rename_i hc
          split at h
          · cases h
          · have := sumA_pos l (ctl_all (by omega))
            exact two_bal run _ (by omega) (by omega) (by omega) (by omega)
  · rw [paidR_no rfl h]; exact h0

end Go.Proofs.Ytbiajkknpkeeoaa
