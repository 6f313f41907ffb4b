/- Contract of payrollref2.Part; and what a part of an amount at a rate is like. Conditions: as stated. -/
import Derived.Test.YtcpkdpflkjjlcaaRound2
namespace Go.Proofs.Ytcpkdpflkjjlcaa
open Go.RowKit

set_option maxHeartbeats 4000000 in
theorem part2_any (a num den unit mode : Int) (w : World) :
    Calls Try.prog 39 #[.int .i64 a, .int .i64 num, .int .i64 den, .int .i64 unit, .int .i64 mode] w fun e w' => e = .returned (.tuple #[.int .i64 (partN a num den unit mode), .int .i64 (partE a num den unit mode)]) ∧ w = w' := by
  rcases hok : partOk a num den unit mode with _ | _
  · obtain ⟨E1, E2⟩ := partE_of hok
    rw [E1, E2]
    have HOK := Lib.hid hok
    clear hok E1 E2
    by_cases c0 : -1000000000000 ≤ a
    rotate_left
    · go_enter Try.func39, Try.ntmps39
      go_wp2_with (go_at_call 56; refine (mode2_any _ _).mono ?_; rintro e w' ⟨rfl, rfl⟩)
      go_ret2
      exact ⟨rfl, rfl⟩
    by_cases c1 : a ≤ 1000000000000
    rotate_left
    · go_enter Try.func39, Try.ntmps39
      go_wp2_with (go_at_call 56; refine (mode2_any _ _).mono ?_; rintro e w' ⟨rfl, rfl⟩)
      go_ret2
      exact ⟨rfl, rfl⟩
    by_cases c2 : 0 ≤ num
    rotate_left
    · go_enter Try.func39, Try.ntmps39
      go_wp2_with (go_at_call 56; refine (mode2_any _ _).mono ?_; rintro e w' ⟨rfl, rfl⟩)
      go_ret2
      exact ⟨rfl, rfl⟩
    by_cases c3 : num ≤ 1000000
    rotate_left
    · go_enter Try.func39, Try.ntmps39
      go_wp2_with (go_at_call 56; refine (mode2_any _ _).mono ?_; rintro e w' ⟨rfl, rfl⟩)
      go_ret2
      exact ⟨rfl, rfl⟩
    by_cases c4 : 1 ≤ den
    rotate_left
    · go_enter Try.func39, Try.ntmps39
      go_wp2_with (go_at_call 56; refine (mode2_any _ _).mono ?_; rintro e w' ⟨rfl, rfl⟩)
      go_ret2
      exact ⟨rfl, rfl⟩
    by_cases c5 : den ≤ 1000000
    rotate_left
    · go_enter Try.func39, Try.ntmps39
      go_wp2_with (go_at_call 56; refine (mode2_any _ _).mono ?_; rintro e w' ⟨rfl, rfl⟩)
      go_ret2
      exact ⟨rfl, rfl⟩
    by_cases c6 : 1 ≤ unit
    rotate_left
    · go_enter Try.func39, Try.ntmps39
      go_wp2_with (go_at_call 56; refine (mode2_any _ _).mono ?_; rintro e w' ⟨rfl, rfl⟩)
      go_ret2
      exact ⟨rfl, rfl⟩
    by_cases c7 : unit ≤ 1000000
    rotate_left
    · go_enter Try.func39, Try.ntmps39
      go_wp2_with (go_at_call 56; refine (mode2_any _ _).mono ?_; rintro e w' ⟨rfl, rfl⟩)
      go_ret2
      exact ⟨rfl, rfl⟩
    skip
    rcases hm : modeB mode with _ | _
    · go_enter Try.func39, Try.ntmps39
      go_wp2_with (go_at_call 56; refine (mode2_any _ _).mono ?_; rintro e w' ⟨rfl, rfl⟩)
      go_ret2
      exact ⟨rfl, rfl⟩
    · have := (partOk_iff a num den unit mode).2 ⟨⟨by omega, by omega, by omega, by omega, by omega, by omega, by omega, by omega⟩, hm⟩
      rw [HOK.out] at this
      cases this
  · obtain ⟨⟨p1, p2⟩, ⟨p3, p4⟩, p5, p6⟩ := part_sizes a num den unit mode hok
    obtain ⟨⟨h1, h2, h3, h4, h5, h6, h7, h8⟩, hm⟩ := (partOk_iff ..).1 hok
    have hE : partE a num den unit mode = if maxN (partX a num den unit mode) = false then 4 else 0 := by rw [partE, if_neg (by simp [hok])]
    have HE := Lib.hid hE
    clear hE
    have HOK := Lib.hid hok
    clear hok
    by_cases x1 : -1000000000000 ≤ rnd (a * num) (den * unit) mode * unit
    · by_cases x2 : rnd (a * num) (den * unit) mode * unit ≤ 1000000000000
      · have H4 : Hid (partE a num den unit mode = 0) := by rw [Hid, HE.out, if_neg (by simp [maxN, partX, x1, x2])]
        have HN : Hid (partN a num den unit mode = rnd (a * num) (den * unit) mode * unit) := by rw [Hid, partN, if_pos H4.out]; rfl
        go_enter Try.func39, Try.ntmps39
        go_wp2_with (go_at_call 56; refine (mode2_any _ _).mono ?_; rintro e w' ⟨rfl, rfl⟩)
        refine (nearest_any _ _ _ _ p1 p2 p3 p4).mono ?_
        rintro e w1 ⟨rfl, rfl⟩
        go_wp2
        go_ret2
        exact ⟨by rw [H4.out, HN.out]; rfl, rfl⟩
      · have H4 : Hid (partE a num den unit mode = 4) := by rw [Hid, HE.out, if_pos (by simp [maxN, partX, x2])]
        have HN : Hid (partN a num den unit mode = 0) := by rw [Hid, partN, if_neg (by rw [H4.out]; omega)]
        go_enter Try.func39, Try.ntmps39
        go_wp2_with (go_at_call 56; refine (mode2_any _ _).mono ?_; rintro e w' ⟨rfl, rfl⟩)
        refine (nearest_any _ _ _ _ p1 p2 p3 p4).mono ?_
        rintro e w1 ⟨rfl, rfl⟩
        go_wp2
        go_ret2
        exact ⟨by rw [H4.out, HN.out]; rfl, rfl⟩
    · have H4 : Hid (partE a num den unit mode = 4) := by rw [Hid, HE.out, if_pos (by simp [maxN, partX, x1])]
      have HN : Hid (partN a num den unit mode = 0) := by rw [Hid, partN, if_neg (by rw [H4.out]; omega)]
      go_enter Try.func39, Try.ntmps39
      go_wp2_with (go_at_call 56; refine (mode2_any _ _).mono ?_; rintro e w' ⟨rfl, rfl⟩)
      refine (nearest_any _ _ _ _ p1 p2 p3 p4).mono ?_
      rintro e w1 ⟨rfl, rfl⟩
      go_wp2
      go_ret2
      exact ⟨by rw [H4.out, HN.out]; rfl, rfl⟩

/-- A part at a rate lies between nothing and the whole. -/
theorem rate_part (a num mode : Int) (h1 : 0 ≤ a) (h2 : a ≤ 1000000000000) (h3 : 0 ≤ num) (h4 : num ≤ 1000000) (hm : modeB mode = true) : partE a num 1000000 1 mode = 0 ∧ 0 ≤ partN a num 1000000 1 mode ∧ partN a num 1000000 1 mode ≤ a := by
  have hok : partOk a num 1000000 1 mode = true := (partOk_iff ..).2 ⟨⟨by omega, by omega, h3, h4, by omega, by omega, by omega, by omega⟩, hm⟩
  have hN0 : 0 ≤ a * num := Int.mul_nonneg h1 h3
  have hN1 : a * num ≤ a * 1000000 := Int.mul_le_mul_of_nonneg_left h4 h1
  have hx : 0 ≤ partX a num 1000000 1 mode ∧ partX a num 1000000 1 mode ≤ a := by
    unfold partX rnd
    rw [Int.mul_one, show (1000000 : Int) * 1 = 1000000 from rfl]
    generalize a * num = N at *
    split
    · omega
    · split <;> omega
  have hE : partE a num 1000000 1 mode = 0 := by
    rw [partE, if_neg (by simp [hok]), if_neg]
    simp only [maxN]
    simp
    omega
  rw [partN, if_pos hE]
  exact ⟨hE, hx⟩

end Go.Proofs.Ytcpkdpflkjjlcaa
