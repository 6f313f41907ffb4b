/- Contracts of rounding.Part and payrollref2.Part: both answer 'partN' and 'partE'. Conditions: as stated. -/
import Derived.Test.YtcpkdpflkjjlcaaRows
import Derived.Test.YtcpkdpflkjjlcaaData2
import Derived.WalkKit
import Derived.WalkSpells
import Derived.WalkLawsBesides
import Derived.Deep.QuietTactic
import Derived.BigQuiet
import Derived.Lib.Hide
namespace Go.Proofs.Ytcpkdpflkjjlcaa
open Go.RowKit

def cmpI (a b : Int) : Int := if a < b then -1 else if b < a then 1 else 0
def upB (low half : Int) (pos : Bool) (mode : Int) : Bool :=
  if mode = 0 then !pos else if mode = 1 then pos else if mode = 2 then false else if mode = 3 then true else if half ≠ 0 then decide (0 < half) else if mode = 4 then pos else if mode = 5 then !pos else low.tmod 2 != 0
def rnd (num den mode : Int) : Int := if num % den = 0 then num / den else if upB (num / den) (cmpI (num % den) (den - num % den)) (decide (0 < num)) mode then num / den + 1 else num / den
def modeB (m : Int) : Bool := decide (0 ≤ m ∧ m ≤ 6)
def partOk (a num den unit mode : Int) : Bool := decide (-1000000000000 ≤ a ∧ a ≤ 1000000000000 ∧ 0 ≤ num ∧ num ≤ 1000000 ∧ 1 ≤ den ∧ den ≤ 1000000 ∧ 1 ≤ unit ∧ unit ≤ 1000000) && modeB mode
def partX (a num den unit mode : Int) : Int := rnd (a * num) (den * unit) mode * unit
def maxN (n : Int) : Bool := decide (-1000000000000 ≤ n ∧ n ≤ 1000000000000)
def partE (a num den unit mode : Int) : Int := if partOk a num den unit mode = false then 2 else if maxN (partX a num den unit mode) = false then 4 else 0
def partN (a num den unit mode : Int) : Int := if partE a num den unit mode = 0 then partX a num den unit mode else 0

theorem tdiv_pos (v n : Int) (hn : 0 < n) (h : 0 ≤ v.tmod n) : v.tdiv n = v / n ∧ v.tmod n = v % n := by
  have h1 := Int.tmod_add_mul_tdiv v n
  have h2 := Int.emod_add_mul_ediv v n
  have h3 := Int.emod_nonneg v (show n ≠ 0 by omega)
  have h4 := Int.emod_lt_of_pos v hn
  have h5 := Int.tmod_lt_of_pos v hn
  have h6 : n * (v.tdiv n - v / n) = v % n - v.tmod n := by
    rw [Int.mul_sub]; omega
  have h7 : v.tdiv n - v / n = 0 := by
    rcases Int.lt_trichotomy (v.tdiv n - v / n) 0 with h | h | h
    · have : n * (v.tdiv n - v / n) ≤ n * (-1) := Int.mul_le_mul_of_nonneg_left (by omega) (by omega)
      omega
    · exact h
    · have : n * 1 ≤ n * (v.tdiv n - v / n) := Int.mul_le_mul_of_nonneg_left (by omega) (by omega)
      omega
  rw [h7] at h6; omega
theorem tdiv_neg (v n : Int) (hn : 0 < n) (h : v.tmod n < 0) : v.tdiv n - 1 = v / n ∧ v.tmod n + n = v % n := by
  have h1 := Int.tmod_add_mul_tdiv v n
  have h2 := Int.emod_add_mul_ediv v n
  have h3 := Int.emod_nonneg v (show n ≠ 0 by omega)
  have h4 := Int.emod_lt_of_pos v hn
  have h5 : -n < v.tmod n := by
    have := Int.lt_tmod_of_pos v hn
    omega
  have h6 : n * (v.tdiv n - v / n - 1) = v % n - (v.tmod n + n) := by
    rw [Int.mul_sub, Int.mul_sub]; omega
  have h7 : v.tdiv n - v / n - 1 = 0 := by
    rcases Int.lt_trichotomy (v.tdiv n - v / n - 1) 0 with h | h | h
    · have : n * (v.tdiv n - v / n - 1) ≤ n * (-1) := Int.mul_le_mul_of_nonneg_left (by omega) (by omega)
      omega
    · exact h
    · have : n * 1 ≤ n * (v.tdiv n - v / n - 1) := Int.mul_le_mul_of_nonneg_left (by omega) (by omega)
      omega
  rw [h7] at h6; omega
theorem ediv_bd (v n : Int) (hn : 0 < n) (B : Int) (h1 : -B ≤ v) (h2 : v ≤ B) (hB : 0 ≤ B) : -B ≤ v / n ∧ v / n ≤ B := by
  constructor
  · rw [Int.le_ediv_iff_mul_le hn]
    have : -B * n ≤ -B * 1 := Int.mul_le_mul_of_nonpos_left (by omega) (by omega)
    omega
  · apply Int.ediv_le_of_le_mul hn
    have : B * 1 ≤ B * n := Int.mul_le_mul_of_nonneg_left (by omega) (by omega)
    omega

set_option maxHeartbeats 400000 in
theorem isNaNI_any (a : Int) (w : World) : Calls Try.prog 60 #[.int .i64 a] w fun e w' => e = .returned (.bool false) ∧ w = w' := by
  go_enter Try.func60, Try.ntmps60
  go_wp2
  go_ret
  exact ⟨by simp, rfl⟩
set_option maxHeartbeats 400000 in
theorem compareI_any (a b : Int) (w : World) : Calls Try.prog 44 #[.int .i64 a, .int .i64 b] w fun e w' => e = .returned (.int .i64 (cmpI a b)) ∧ w = w' := by
  go_enter Try.func44, Try.ntmps44
  go_wp2_with (go_at_call 60; refine (isNaNI_any _ _).mono ?_; rintro e w' ⟨rfl, rfl⟩)
  all_goals go_ret
  all_goals refine ⟨?_, rfl⟩
  all_goals (simp [cmpI, *]; try omega)

set_option maxHeartbeats 1000000 in
theorem upward_any (low half : Int) (pos : Bool) (mode : Int) (w : World) :
    Calls Try.prog 67 #[.int .i64 low, .int .i64 half, .bool pos, .int .i64 mode] w fun e w' => e = .returned (.bool (upB low half pos mode)) ∧ w = w' := by
  go_enter Try.func67, Try.ntmps67
  go_wp2
  all_goals go_ret
  all_goals refine ⟨?_, rfl⟩
  all_goals (simp_all [upB])

set_option maxHeartbeats 1000000 in
theorem isMode_any (m : Int) (w : World) : Calls Try.prog 54 #[.int .i64 m] w fun e w' => e = .returned (.bool (modeB m)) ∧ w = w' := by
  by_cases h1 : 0 ≤ m <;> by_cases h2 : m ≤ 6
  all_goals
    have hb : modeB m = (decide (0 ≤ m) && decide (m ≤ 6)) := by simp [modeB]
    have HB := Lib.hid hb; clear hb
    go_enter Try.func54, Try.ntmps54
    go_wp2
    go_ret
    exact ⟨by rw [HB.out]; simp [h1, h2], rfl⟩
set_option maxHeartbeats 1000000 in
theorem mode2_any (m : Int) (w : World) : Calls Try.prog 56 #[.int .i64 m] w fun e w' => e = .returned (.bool (modeB m)) ∧ w = w' := by
  by_cases h1 : 0 ≤ m <;> by_cases h2 : m ≤ 6
  all_goals
    have hb : modeB m = (decide (0 ≤ m) && decide (m ≤ 6)) := by simp [modeB]
    have HB := Lib.hid hb; clear hb
    go_enter Try.func56, Try.ntmps56
    go_wp2
    go_ret
    exact ⟨by rw [HB.out]; simp [h1, h2], rfl⟩

set_option maxHeartbeats 2000000 in
theorem quotient_any (num den mode : Int) (w : World) (h1 : -1000000000000000000 ≤ num) (h2 : num ≤ 1000000000000000000) (h3 : 0 < den) (h4 : den ≤ 1000000000000) :
    Calls Try.prog 55 #[.int .i64 num, .int .i64 den, .int .i64 mode] w fun e w' => e = .returned (.int .i64 (rnd num den mode)) ∧ ∃ q, w' = w.drewN q := by
  have hq := ediv_bd num den h3 1000000000000000000 h1 h2 (by omega)
  obtain ⟨hq1, hq2⟩ := hq
  have hr1 := Int.emod_nonneg num (show den ≠ 0 by omega)
  have hr2 := Int.emod_lt_of_pos num h3
  have hd0 : (den == 0) = false := by simp; omega
  by_cases hn : num.tmod den < 0
  · obtain ⟨e1, e2⟩ := tdiv_neg num den h3 hn
    have hR : rnd num den mode = if num % den = 0 then num / den else if upB (num / den) (cmpI (num % den) (den - num % den)) (decide (0 < num)) mode then num / den + 1 else num / den := rfl
    rw [← e1, ← e2] at hR
    have hL1 : -1000000000000000000 ≤ num.tdiv den := by omega
    have hL2 : num.tdiv den ≤ 1000000000000000001 := by omega
    have hM1 : 0 < num.tmod den + den := by
      have := Int.lt_tmod_of_pos num h3
      omega
    have hM2 : num.tmod den < den := by omega
    have hM0 : -1000000000000 < num.tmod den := by omega
    have hz : ((num.tmod den + den) != 0) = true := by simp; omega
    rw [if_neg (by omega)] at hR
    have HR := Lib.hid hR
    clear hR e1 e2 hq1 hq2 hr1 hr2
    cases hu : upB (num.tdiv den - 1) (cmpI (num.tmod den + den) (den - (num.tmod den + den))) (decide (0 < num)) mode
    all_goals
      have HU := Lib.hid hu
      clear hu
      go_enter Try.func55, Try.ntmps55
      go_wp2
      go_quiet (fail)
      go_wp2_with fail
      refine (compareI_any _ _ _).mono ?_
      rintro e w1 ⟨rfl, rfl⟩
      go_wp2_with fail
      refine (upward_any _ _ _ _ _).mono ?_
      rintro e w1 ⟨rfl, rfl⟩
      rw [HU.out]
      go_wp2
      go_ret
      exact ⟨by rw [HR.out, HU.out]; first | rfl | simp, _, rfl⟩
  · have hn' : 0 ≤ num.tmod den := by omega
    obtain ⟨e1, e2⟩ := tdiv_pos num den h3 hn'
    have hR : rnd num den mode = if num % den = 0 then num / den else if upB (num / den) (cmpI (num % den) (den - num % den)) (decide (0 < num)) mode then num / den + 1 else num / den := rfl
    rw [← e1, ← e2] at hR
    have hL1 : -1000000000000000000 ≤ num.tdiv den := by omega
    have hL2 : num.tdiv den ≤ 1000000000000000000 := by omega
    have hM2 : num.tmod den < den := by omega
    have hM0 : num.tmod den < 1000000000000 := by omega
    by_cases h0 : num.tmod den = 0
    · rw [if_pos h0] at hR
      have HR := Lib.hid hR
      have hz : (num.tmod den != 0) = false := by simp [h0]
      clear hR e1 e2 hq1 hq2 hr1 hr2 h0
      go_enter Try.func55, Try.ntmps55
      go_wp2
      go_quiet (fail)
      go_wp2
      go_ret
      exact ⟨by rw [HR.out]; first | rfl | simp, _, rfl⟩
    · rw [if_neg h0] at hR
      have HR := Lib.hid hR
      have hz : (num.tmod den != 0) = true := by simp [h0]
      clear hR e1 e2 hq1 hq2 hr1 hr2 h0
      cases hu : upB (num.tdiv den) (cmpI (num.tmod den) (den - num.tmod den)) (decide (0 < num)) mode
      all_goals
        have HU := Lib.hid hu
        clear hu
        go_enter Try.func55, Try.ntmps55
        go_wp2
        go_quiet (fail)
        go_wp2_with fail
        refine (compareI_any _ _ _).mono ?_
        rintro e w1 ⟨rfl, rfl⟩
        go_wp2_with fail
        refine (upward_any _ _ _ _ _).mono ?_
        rintro e w1 ⟨rfl, rfl⟩
        rw [HU.out]
        go_wp2
        go_ret
        exact ⟨by rw [HR.out, HU.out]; first | rfl | simp, _, rfl⟩

end Go.Proofs.Ytcpkdpflkjjlcaa
