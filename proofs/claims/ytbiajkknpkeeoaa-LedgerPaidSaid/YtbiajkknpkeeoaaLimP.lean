/- Plain laws for LedgerLimits: entries on two accounts in turn. Conditions: as stated. -/
import Derived.Test.YtbiajkknpkeeoaaBk
namespace Go.Proofs.Ytbiajkknpkeeoaa
open Go.RowKit

def altX (r : Int) (i : Nat) : BookT := ⟨r, 100 + (i : Int) % 2, 1 - 2 * ((i : Int) % 2)⟩
def alt (r : Int) (k : Nat) : List BookT := (List.range k).map (altX r)
theorem alt_succ (r : Int) (k : Nat) : alt r (k + 1) = alt r k ++ [altX r k] := by simp [alt, List.range_succ]
theorem alt_len (r : Int) (k : Nat) : (alt r k).length = k := by simp [alt]
theorem alt_zero (k : Nat) : (alt 1 k).map zeroRun = alt 0 k := by
  simp only [alt, List.map_map]
  rfl
theorem alt_ok (r : Int) (hr : 0 ≤ r) (hr2 : r ≤ 256) (k : Nat) : (alt r k).all okB = true := by
  rw [List.all_eq_true]
  intro x hx
  obtain ⟨i, _, rfl⟩ := List.mem_map.1 hx
  rw [okB_iff]
  simp only [altX]
  omega
theorem alt_tot (r : Int) (k : Nat) (c : KeyB) : RB.tot (alt r k) c = if c = (r, 100, 0) then ((k : Int) + 1) / 2 else if c = (r, 101, 0) then -((k : Int) / 2) else 0 := by
  induction k with
  | zero =>
    simp only [alt, List.range_zero, List.map_nil, Rec.tot]
    split
    · rfl
    · split <;> rfl
  | succ k ih =>
    rw [alt_succ, Rec.tot_append, ih]
    have h1 : ∀ a n : Int, RB.tot [⟨r, a, n⟩] c = if (r, a, (0 : Int)) = c then n else 0 := fun a n => by
      show (if (r, a, (0 : Int)) = c then n else 0) + 0 = _
      omega
    have hk : ((k + 1 : Nat) : Int) = (k : Int) + 1 := by omega
    rw [hk]
    rcases Int.emod_two_eq (k : Int) with h | h
    · have hx : altX r k = ⟨r, 100, 1⟩ := by simp [altX, h]
      rw [hx, h1]
      by_cases e1 : c = (r, 100, 0)
      · rw [if_pos e1, if_pos e1.symm, if_pos e1]; omega
      · rw [if_neg e1, if_neg (show ¬ (r, 100, (0 : Int)) = c from fun e => e1 e.symm), if_neg e1]
        by_cases e2 : c = (r, 101, 0)
        · rw [if_pos e2, if_pos e2]; omega
        · rw [if_neg e2, if_neg e2]; rfl
    · have hx : altX r k = ⟨r, 101, -1⟩ := by simp [altX, h]
      rw [hx, h1]
      by_cases e1 : c = (r, 100, 0)
      · have e2 : ¬ (r, 101, (0 : Int)) = c := fun e => by rw [e1] at e; simp at e
        rw [if_pos e1, if_neg e2, if_pos e1]; omega
      · rw [if_neg e1, if_neg e1]
        by_cases e2 : c = (r, 101, 0)
        · rw [if_pos e2, if_pos e2.symm, if_pos e2]; omega
        · rw [if_neg e2, if_neg (show ¬ (r, 101, (0 : Int)) = c from fun e => e2 e.symm), if_neg e2]; rfl
theorem alt_has (r : Int) (k : Nat) (hk : 2 ≤ k) (c : KeyB) : RB.has (alt r k) c = true ↔ (c = (r, 100, 0) ∨ c = (r, 101, 0)) := by
  simp only [Rec.has, List.any_eq_true, decide_eq_true_eq]
  constructor
  · rintro ⟨x, hx, rfl⟩
    obtain ⟨i, _, rfl⟩ := List.mem_map.1 hx
    simp only [RB, altX]
    rcases Int.emod_two_eq (i : Int) with h | h
    · left; rw [h]; rfl
    · right; rw [h]; rfl
  · rintro (rfl | rfl)
    · exact ⟨altX r 0, List.mem_map.2 ⟨0, by simp; omega, rfl⟩, rfl⟩
    · exact ⟨altX r 1, List.mem_map.2 ⟨1, by simp; omega, rfl⟩, rfl⟩
def altR (r : Int) (k : Nat) : List BookT := [⟨r, 100, ((k : Int) + 1) / 2⟩, ⟨r, 101, -((k : Int) / 2)⟩]
theorem alt_merge (r : Int) (hr : 0 ≤ r) (hr2 : r ≤ 256) (k : Nat) (hk : 2 ≤ k) (hk2 : k ≤ 131072) : mErrB (alt r k) = 0 ∧ mRB (alt r k) = altR r k := by
  have hS : RB.Sorted (altR r k) := by
    simp only [Rec.Sorted, altR, List.pairwise_cons]
    simp [RB, ltB]
  have hmem : ∀ x : BookT, x ∈ altR r k ↔ (RB.has (RB.sums (alt r k)) (RB.key x) = true ∧ RB.amt x = RB.tot (RB.sums (alt r k)) (RB.key x) ∧ RB.amt x ≠ 0) := by
    intro x
    rw [Rec.sums_has RB_law, Rec.sums_tot RB_law, alt_has r k hk, alt_tot]
    obtain ⟨a, b, c⟩ := x
    simp only [altR, List.mem_cons, List.not_mem_nil, or_false, BookT.mk.injEq, RB, Prod.mk.injEq, and_true]
    constructor
    · rintro (⟨rfl, rfl, rfl⟩ | ⟨rfl, rfl, rfl⟩)
      · refine ⟨.inl ⟨rfl, rfl⟩, by simp, by omega⟩
      · refine ⟨.inr ⟨rfl, rfl⟩, by simp, by omega⟩
    · rintro ⟨⟨rfl, rfl⟩ | ⟨rfl, rfl⟩, h2, _⟩
      · left; simpa using h2
      · right; simpa using h2
  have hF := Rec.filtered_eq RB_law (Rec.sums_sorted RB_law (alt r k)) hS hmem
  have hO : overB (RB.sums (alt r k)) = false := by
    cases hh : overB (RB.sums (alt r k))
    · rfl
    · obtain ⟨c, hc1, hc2⟩ := (Rec.any_iff RB_law maxN (Rec.sums_sorted RB_law (alt r k))).1 hh
      rw [Rec.sums_tot RB_law, alt_tot] at hc2
      exfalso
      simp only [maxN, decide_eq_false_iff_not] at hc2
      apply hc2
      split
      · omega
      · split <;> omega
  have hE : mErrB (alt r k) = 0 := by
    rw [mErrB_4 (by rw [alt_len]; omega) (alt_ok r hr hr2 k), hO]; rfl
  exact ⟨hE, by rw [mRB_ok hE, ← hF]⟩
theorem alt_bal (k : Nat) (hk : 2 ≤ k) (hk2 : k ≤ 131072) : balB (alt 1 k) = decide ((k : Int) % 2 = 0) := by
  obtain ⟨h1, h2⟩ := alt_merge 1 (by omega) (by omega) k hk hk2
  rw [balB, if_pos h1, h2, Bool.eq_iff_iff]
  simp only [balL, altR, List.all_cons, List.all_nil, runTot, Bool.and_true, Bool.and_eq_true, beq_iff_eq, decide_eq_true_eq]
  simp only [if_true]
  omega
theorem alt_long (r : Int) (k : Nat) (hk : 131072 < k) : mErrB (alt r k) = 3 ∧ mRB (alt r k) = [] ∧ balB (alt r k) = false := by
  have h1 : mErrB (alt r k) = 3 := mErrB_3 (by rw [alt_len]; exact hk)
  exact ⟨h1, mRB_no h1 (by omega), by rw [balB, if_neg (by rw [h1]; omega)]⟩

end Go.Proofs.Ytbiajkknpkeeoaa
