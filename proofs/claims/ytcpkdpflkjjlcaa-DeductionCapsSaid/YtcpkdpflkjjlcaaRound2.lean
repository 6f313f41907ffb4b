/- Contracts of payrollref2.nearest, payrollref2.Part and rounding.Part. Conditions: as stated. -/
import Derived.Test.YtcpkdpflkjjlcaaRound
namespace Go.Proofs.Ytcpkdpflkjjlcaa
open Go.RowKit

/-- The rounded quotient, as the reference says it, out of the quotient q and the rest r. -/
def rndR (num den mode q r : Int) : Int :=
  if mode = 0 then (if num < 0 then q + 1 else q) else if mode = 1 then (if num < 0 then q else q + 1) else if mode = 2 then q else if mode = 3 then q + 1 else
  if den - r < r then q + 1 else if r = den - r then (if mode = 4 then (if num < 0 then q else q + 1) else if mode = 5 then (if num < 0 then q + 1 else q) else (if q.tmod 2 = 0 then q else q + 1)) else q
theorem rnd_ref (num den mode : Int) (h0 : num % den ≠ 0) : rnd num den mode = rndR num den mode (num / den) (num % den) := by
  have hn : num ≠ 0 := by rintro rfl; simp at h0
  rw [rnd, if_neg h0, upB, rndR, cmpI]
  by_cases m0 : mode = 0
  · simp only [m0, if_true]
    by_cases h : num < 0
    · have : ¬ 0 < num := by omega
      simp [h, this]
    · have : 0 < num := by omega
      simp [h, this]
  by_cases m1 : mode = 1
  · subst m1
    by_cases h : num < 0
    · have : ¬ 0 < num := by omega
      simp [h, this]
    · have : 0 < num := by omega
      simp [h, this]
  by_cases m2 : mode = 2
  · subst m2; simp
  by_cases m3 : mode = 3
  · subst m3; simp
  simp only [m0, m1, m2, m3, if_false]
  by_cases c1 : num % den < den - num % den
  · have c2 : ¬ den - num % den < num % den := by omega
    have c3 : ¬ num % den = den - num % den := by omega
    simp [c1, c2, c3]
  · by_cases c2 : den - num % den < num % den
    · simp [c1, c2]
    · have c3 : num % den = den - num % den := by omega
      simp only [if_neg c1, if_neg c2, if_pos c3]
      by_cases h : num < 0
      · have : ¬ 0 < num := by omega
        simp only [h, this]
        by_cases m4 : mode = 4
        · simp [m4]
        · by_cases m5 : mode = 5
          · simp [m5]
          · simp [m4, m5]
      · have : 0 < num := by omega
        simp only [h, this]
        by_cases m4 : mode = 4
        · simp [m4]
        · by_cases m5 : mode = 5
          · simp [m5]
          · simp [m4, m5]

set_option maxHeartbeats 4000000 in
theorem nearest_any (num den mode : Int) (w : World) (h1 : -1000000000000000000 ≤ num) (h2 : num ≤ 1000000000000000000) (h3 : 0 < den) (h4 : den ≤ 1000000000000) :
    Calls Try.prog 57 #[.int .i64 num, .int .i64 den, .int .i64 mode] w fun e w' => e = .returned (.int .i64 (rnd num den mode)) ∧ w = w' := by
  have hq := ediv_bd num den h3 1000000000000000000 h1 h2 (by omega)
  obtain ⟨hq1, hq2⟩ := hq
  have hr1 := Int.emod_nonneg num (show den ≠ 0 by omega)
  have hr2 := Int.emod_lt_of_pos num h3
  have hd0 : (den == 0) = false := by simp; omega
  have ht := Int.tmod_add_mul_tdiv num den
  have hc : den * num.tdiv den = num.tdiv den * den := Int.mul_comm _ _
  have hRR := fun h0 => rnd_ref num den mode h0
  by_cases hn : num.tmod den < 0
  · obtain ⟨e1, e2⟩ := tdiv_neg num den h3 hn
    have hM1 : -den < num.tmod den := by
      have := Int.lt_tmod_of_pos num h3
      omega
    have e3 : (num.tdiv den - 1) * den = num.tdiv den * den - den := by rw [Int.sub_mul]; omega
    have e4 : num % den = num - (num.tdiv den - 1) * den := by omega
    have hP : num < num.tdiv den * den := by omega
    have hP2 : num.tdiv den * den < num + den := by omega
    have hR1 : 0 < num - (num.tdiv den - 1) * den := by omega
    have hR2 : num - (num.tdiv den - 1) * den < den := by omega
    have hP3 : -2000000000000000000 ≤ (num.tdiv den - 1) * den := by omega
    have hP4 : (num.tdiv den - 1) * den ≤ 2000000000000000000 := by omega
    have hL1 : -1000000000000000000 ≤ num.tdiv den := by omega
    have hL2 : num.tdiv den ≤ 1000000000000000001 := by omega
    have hR := hRR (by omega)
    rw [← e1, e4] at hR
    have HR := Lib.hid hR
    have hz : (num - (num.tdiv den - 1) * den == 0) = false := by simp; omega
    clear hR e1 e2 e3 e4 hq1 hq2 hr1 hr2 ht hc hRR hn hM1
    go_enter Try.func57, Try.ntmps57
    go_wp2
    all_goals go_ret
    all_goals refine ⟨?_, rfl⟩
    all_goals rw [HR.out, rndR]
    all_goals clear HR hP hP2 hP3 hP4 hL1 hL2 hz h1 h2 h3 h4 hd0
    all_goals generalize num - (num.tdiv den - 1) * den = r at *
    all_goals simp only [beq_iff_eq, beq_eq_false_iff_ne, ne_eq, Bool.not_eq_true', Bool.not_eq_false'] at *
    all_goals repeat' split
    all_goals first | rfl | (exfalso; omega) | (exact congrArg (fun n : Int => Ending.returned (Value.int IntKind.i64 n)) (by omega))
  · have hn' : 0 ≤ num.tmod den := by omega
    obtain ⟨e1, e2⟩ := tdiv_pos num den h3 hn'
    have hP : num.tdiv den * den ≤ num := by omega
    have hP2 : num < num.tdiv den * den + den := by omega
    have e4 : num % den = num - num.tdiv den * den := by omega
    have hP3 : -2000000000000000000 ≤ num.tdiv den * den := by omega
    have hP4 : num.tdiv den * den ≤ 2000000000000000000 := by omega
    have hL1 : -1000000000000000000 ≤ num.tdiv den := by omega
    have hL2 : num.tdiv den ≤ 1000000000000000000 := by omega
    by_cases h0 : num - num.tdiv den * den = 0
    · have hR : rnd num den mode = num.tdiv den := by rw [rnd, if_pos (by omega), e1]
      have HR := Lib.hid hR
      have hz : (num - num.tdiv den * den == 0) = true := by simp [h0]
      clear hR e1 e2 e4 hq1 hq2 hr1 hr2 ht hc hRR hn h0
      go_enter Try.func57, Try.ntmps57
      go_wp2
      go_ret
      exact ⟨by rw [HR.out]; rfl, rfl⟩
    · have hR1 : 0 < num - num.tdiv den * den := by omega
      have hR2 : num - num.tdiv den * den < den := by omega
      have hR := hRR (by omega)
      rw [← e1, e4] at hR
      have HR := Lib.hid hR
      have hz : (num - num.tdiv den * den == 0) = false := by simp; omega
      clear hR e1 e2 e4 hq1 hq2 hr1 hr2 ht hc hRR hn h0
      go_enter Try.func57, Try.ntmps57
      go_wp2
      all_goals go_ret
      all_goals refine ⟨?_, rfl⟩
      all_goals rw [HR.out, rndR]
      all_goals clear HR hP hP2 hP3 hP4 hL1 hL2 hz h1 h2 h3 h4 hd0
      all_goals generalize num - num.tdiv den * den = r at *
      all_goals simp only [beq_iff_eq, beq_eq_false_iff_ne, ne_eq, Bool.not_eq_true', Bool.not_eq_false'] at *
      all_goals repeat' split
      all_goals first | rfl | (exfalso; omega) | (exact congrArg (fun n : Int => Ending.returned (Value.int IntKind.i64 n)) (by omega))

theorem mul_bd (a b A B : Int) (h1 : -A ≤ a) (h2 : a ≤ A) (h3 : 0 ≤ b) (h4 : b ≤ B) (hA : 0 ≤ A) : -(A * B) ≤ a * b ∧ a * b ≤ A * B := by
  have e1 : A * b ≤ A * B := Int.mul_le_mul_of_nonneg_left h4 hA
  constructor
  · have : -A * b ≤ a * b := Int.mul_le_mul_of_nonneg_right h1 h3
    rw [Int.neg_mul] at this
    omega
  · have : a * b ≤ A * b := Int.mul_le_mul_of_nonneg_right h2 h3
    omega
theorem rnd_bd (num den mode B : Int) (hd : 0 < den) (h1 : -B ≤ num) (h2 : num ≤ B) (hB : 0 ≤ B) : -B ≤ rnd num den mode ∧ rnd num den mode ≤ B + 1 := by
  have h := ediv_bd num den hd B h1 h2 hB
  unfold rnd
  split
  · omega
  · split <;> omega
theorem partOk_iff (a num den unit mode : Int) : partOk a num den unit mode = true ↔ (-1000000000000 ≤ a ∧ a ≤ 1000000000000 ∧ 0 ≤ num ∧ num ≤ 1000000 ∧ 1 ≤ den ∧ den ≤ 1000000 ∧ 1 ≤ unit ∧ unit ≤ 1000000) ∧ modeB mode = true := by
  simp [partOk]
/-- How the sizes go: what is divided, by what, and the rounded number of units. -/
theorem part_sizes (a num den unit mode : Int) (h : partOk a num den unit mode = true) : (-1000000000000000000 ≤ a * num ∧ a * num ≤ 1000000000000000000) ∧ (0 < den * unit ∧ den * unit ≤ 1000000000000) ∧ (-2000000000000000000 ≤ rnd (a * num) (den * unit) mode * unit ∧ rnd (a * num) (den * unit) mode * unit ≤ 2000000000000000000) := by
  obtain ⟨⟨h1, h2, h3, h4, h5, h6, h7, h8⟩, _⟩ := (partOk_iff ..).1 h
  have hp := mul_bd a num 1000000000000 1000000 h1 h2 h3 h4 (by omega)
  have hp2 := mul_bd den unit 1000000 1000000 (by omega) h6 (by omega) h8 (by omega)
  have hp3 : 1 * 1 ≤ den * unit := Int.mul_le_mul h5 h7 (by omega) (by omega)
  have hp4 : unit ≤ den * unit := by
    have : 1 * unit ≤ den * unit := Int.mul_le_mul_of_nonneg_right h5 (by omega)
    omega
  refine ⟨by omega, by omega, ?_⟩
  generalize hN : a * num = N at *
  generalize hD : den * unit = D at *
  have hq1 := Int.emod_add_mul_ediv N D
  have hq2 := Int.emod_nonneg N (show D ≠ 0 by omega)
  have hq3 := Int.emod_lt_of_pos N (show 0 < D by omega)
  have hr : N / D ≤ rnd N D mode ∧ rnd N D mode ≤ N / D + 1 := by
    unfold rnd
    split
    · omega
    · split <;> omega
  have hqb := ediv_bd N D (by omega) 1000000000000000000 (by omega) (by omega) (by omega)
  have k1 : (N / D) * unit ≤ rnd N D mode * unit := Int.mul_le_mul_of_nonneg_right hr.1 (by omega)
  have k2 : rnd N D mode * unit ≤ (N / D + 1) * unit := Int.mul_le_mul_of_nonneg_right hr.2 (by omega)
  rw [Int.add_mul] at k2
  have k3 : -1100000000000000000 ≤ (N / D) * unit ∧ (N / D) * unit ≤ 1100000000000000000 := by
    rcases Int.le_total 0 (N / D) with h0 | h0
    · have e1 : (N / D) * unit ≤ (N / D) * D := Int.mul_le_mul_of_nonneg_left hp4 h0
      have e2 : 0 ≤ (N / D) * unit := Int.mul_nonneg h0 (by omega)
      have e3 : D * (N / D) = (N / D) * D := Int.mul_comm _ _
      omega
    · have e1 : (N / D) * D ≤ (N / D) * unit := Int.mul_le_mul_of_nonpos_left h0 hp4
      have e2 : (N / D) * unit ≤ 0 := Int.mul_nonpos_of_nonpos_of_nonneg h0 (by omega)
      have e3 : D * (N / D) = (N / D) * D := Int.mul_comm _ _
      omega
  omega

theorem partE_of {a num den unit mode : Int} (h : partOk a num den unit mode = false) : partE a num den unit mode = 2 ∧ partN a num den unit mode = 0 := by
  have : partE a num den unit mode = 2 := by rw [partE, if_pos h]
  exact ⟨this, by rw [partN, if_neg (by omega)]⟩

set_option maxHeartbeats 4000000 in
theorem part_any (a num den unit mode : Int) (w : World) :
    Calls Try.prog 38 #[.int .i64 a, .int .i64 num, .int .i64 den, .int .i64 unit, .int .i64 mode] w fun e w' => e = .returned (.tuple #[.int .i64 (partN a num den unit mode), .int .i64 (partE a num den unit mode)]) ∧ ∃ q, w' = w.drewN q := by
  rcases hok : partOk a num den unit mode with _ | _
  · obtain ⟨E1, E2⟩ := partE_of hok
    rw [E1, E2]
    have HOK := Lib.hid hok
    clear hok E1 E2
    by_cases c0 : -1000000000000 ≤ a
    rotate_left
    · go_enter Try.func38, Try.ntmps38
      go_wp2_with (go_at_call 54; refine (isMode_any _ _).mono ?_; rintro e w' ⟨rfl, rfl⟩)
      go_ret2
      exact ⟨rfl, 0, rfl⟩
    by_cases c1 : a ≤ 1000000000000
    rotate_left
    · go_enter Try.func38, Try.ntmps38
      go_wp2_with (go_at_call 54; refine (isMode_any _ _).mono ?_; rintro e w' ⟨rfl, rfl⟩)
      go_ret2
      exact ⟨rfl, 0, rfl⟩
    by_cases c2 : 0 ≤ num
    rotate_left
    · go_enter Try.func38, Try.ntmps38
      go_wp2_with (go_at_call 54; refine (isMode_any _ _).mono ?_; rintro e w' ⟨rfl, rfl⟩)
      go_ret2
      exact ⟨rfl, 0, rfl⟩
    by_cases c3 : num ≤ 1000000
    rotate_left
    · go_enter Try.func38, Try.ntmps38
      go_wp2_with (go_at_call 54; refine (isMode_any _ _).mono ?_; rintro e w' ⟨rfl, rfl⟩)
      go_ret2
      exact ⟨rfl, 0, rfl⟩
    by_cases c4 : 1 ≤ den
    rotate_left
    · go_enter Try.func38, Try.ntmps38
      go_wp2_with (go_at_call 54; refine (isMode_any _ _).mono ?_; rintro e w' ⟨rfl, rfl⟩)
      go_ret2
      exact ⟨rfl, 0, rfl⟩
    by_cases c5 : den ≤ 1000000
    rotate_left
    · go_enter Try.func38, Try.ntmps38
      go_wp2_with (go_at_call 54; refine (isMode_any _ _).mono ?_; rintro e w' ⟨rfl, rfl⟩)
      go_ret2
      exact ⟨rfl, 0, rfl⟩
    by_cases c6 : 1 ≤ unit
    rotate_left
    · go_enter Try.func38, Try.ntmps38
      go_wp2_with (go_at_call 54; refine (isMode_any _ _).mono ?_; rintro e w' ⟨rfl, rfl⟩)
      go_ret2
      exact ⟨rfl, 0, rfl⟩
    by_cases c7 : unit ≤ 1000000
    rotate_left
    · go_enter Try.func38, Try.ntmps38
      go_wp2_with (go_at_call 54; refine (isMode_any _ _).mono ?_; rintro e w' ⟨rfl, rfl⟩)
      go_ret2
      exact ⟨rfl, 0, rfl⟩
    skip
    rcases hm : modeB mode with _ | _
    · go_enter Try.func38, Try.ntmps38
      go_wp2_with (go_at_call 54; refine (isMode_any _ _).mono ?_; rintro e w' ⟨rfl, rfl⟩)
      go_ret2
      exact ⟨rfl, 0, rfl⟩
    · have := (partOk_iff a num den unit mode).2 ⟨⟨by omega, by omega, by omega, by omega, by omega, by omega, by omega, by omega⟩, hm⟩
      rw [HOK.out] at this
      cases this
  · obtain ⟨⟨p1, p2⟩, ⟨p3, p4⟩, p5, p6⟩ := part_sizes a num den unit mode hok
    obtain ⟨⟨h1, h2, h3, h4, h5, h6, h7, h8⟩, hm⟩ := (partOk_iff ..).1 hok
    have hE : partE a num den unit mode = if maxN (partX a num den unit mode) = false then 4 else 0 := by rw [partE, if_neg (by simp [hok])]
    have HE := Lib.hid hE
    clear hE
    have HOK := Lib.hid hok
    clear hok
    by_cases x1 : -1000000000000 ≤ rnd (a * num) (den * unit) mode * unit
    · by_cases x2 : rnd (a * num) (den * unit) mode * unit ≤ 1000000000000
      · have H4 : Hid (partE a num den unit mode = 0) := by rw [Hid, HE.out, if_neg (by simp [maxN, partX, x1, x2])]
        have HN : Hid (partN a num den unit mode = rnd (a * num) (den * unit) mode * unit) := by rw [Hid, partN, if_pos H4.out]; rfl
        go_enter Try.func38, Try.ntmps38
        go_wp2_with (go_at_call 54; refine (isMode_any _ _).mono ?_; rintro e w' ⟨rfl, rfl⟩)
        refine (quotient_any _ _ _ _ p1 p2 p3 p4).mono ?_
        rintro e w1 ⟨rfl, q1, rfl⟩
        go_wp2
        go_ret2
        exact ⟨by rw [H4.out, HN.out]; rfl, q1, rfl⟩
      · have H4 : Hid (partE a num den unit mode = 4) := by rw [Hid, HE.out, if_pos (by simp [maxN, partX, x2])]
        have HN : Hid (partN a num den unit mode = 0) := by rw [Hid, partN, if_neg (by rw [H4.out]; omega)]
        go_enter Try.func38, Try.ntmps38
        go_wp2_with (go_at_call 54; refine (isMode_any _ _).mono ?_; rintro e w' ⟨rfl, rfl⟩)
        refine (quotient_any _ _ _ _ p1 p2 p3 p4).mono ?_
        rintro e w1 ⟨rfl, q1, rfl⟩
        go_wp2
        go_ret2
        exact ⟨by rw [H4.out, HN.out]; rfl, q1, rfl⟩
    · have H4 : Hid (partE a num den unit mode = 4) := by rw [Hid, HE.out, if_pos (by simp [maxN, partX, x1])]
      have HN : Hid (partN a num den unit mode = 0) := by rw [Hid, partN, if_neg (by rw [H4.out]; omega)]
      go_enter Try.func38, Try.ntmps38
      go_wp2_with (go_at_call 54; refine (isMode_any _ _).mono ?_; rintro e w' ⟨rfl, rfl⟩)
      refine (quotient_any _ _ _ _ p1 p2 p3 p4).mono ?_
      rintro e w1 ⟨rfl, q1, rfl⟩
      go_wp2
      go_ret2
      exact ⟨by rw [H4.out, HN.out]; rfl, q1, rfl⟩

end Go.Proofs.Ytcpkdpflkjjlcaa
