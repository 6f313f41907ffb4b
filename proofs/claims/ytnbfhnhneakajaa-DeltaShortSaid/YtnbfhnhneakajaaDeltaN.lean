/- Contracts of the functions on numbers of package delta and its reference: within, reduction, Recover; in, hold, Recover. Conditions: as stated. -/
import Derived.Test.YtnbfhnhneakajaaRound3
namespace Go.Proofs.Ytnbfhnhneakajaa
open Go.RowKit

def inB (n lo hi : Int) : Bool := decide (lo ≤ n ∧ n ≤ hi)
theorem inB_yes {n lo hi : Int} (h1 : lo ≤ n) (h2 : n ≤ hi) : inB n lo hi = true := by simp [inB, h1, h2]
set_option maxHeartbeats 1000000 in
theorem within_any (v lo hi : Int) (w : World) : Calls Try.prog 36 #[.int .i64 v, .int .i64 lo, .int .i64 hi] w fun e w' => e = .returned (.bool (inB v lo hi)) ∧ w = w' := by
  by_cases h1 : lo ≤ v <;> by_cases h2 : v ≤ hi
  all_goals
    have hb : inB v lo hi = (decide (lo ≤ v) && decide (v ≤ hi)) := by simp [inB]
    have HB := Lib.hid hb; clear hb
    go_enter Try.func36, Try.ntmps36
    go_wp2
    go_ret
    exact ⟨by rw [HB.out]; simp [h1, h2], rfl⟩
set_option maxHeartbeats 1000000 in
theorem in37_any (v hi : Int) (w : World) : Calls Try.prog 39 #[.int .i64 v, .int .i64 hi] w fun e w' => e = .returned (.bool (inB v 0 hi)) ∧ w = w' := by
  by_cases h1 : 0 ≤ v <;> by_cases h2 : v ≤ hi
  all_goals
    have hb : inB v 0 hi = (decide (0 ≤ v) && decide (v ≤ hi)) := by simp [inB]
    have HB := Lib.hid hb; clear hb
    go_enter Try.func39, Try.ntmps39
    go_wp2
    go_ret
    exact ⟨by rw [HB.out]; simp [h1, h2], rfl⟩

def holdN (debt net keep share : Int) : Int := min (min debt (partN net share 1000000 1 0)) (max (net - keep) 0)
set_option maxHeartbeats 1000000 in
theorem reduction_any (debt net keep share : Int) (w : World) (h1 : 0 ≤ net) (h2 : net ≤ 1000000000) (h3 : 0 ≤ keep) (h4 : keep ≤ 1000000000) (h5 : 0 ≤ share) (h6 : share ≤ 1000000) :
    Calls Try.prog 38 #[.int .i64 debt, .int .i64 net, .int .i64 keep, .int .i64 share] w fun e w' => e = .returned (.tuple #[.int .i64 (holdN debt net keep share), .int .i64 0]) ∧ ∃ q, w' = w.drewN q := by
  obtain ⟨E1, E2, E3⟩ := rate_part net share 0 h1 (by omega) h5 h6 rfl
  have HH : Hid (holdN debt net keep share = min (min debt (partN net share 1000000 1 0)) (max (net - keep) 0)) := rfl
  go_enter Try.func38, Try.ntmps38
  go_wp2_with fail
  refine (part_any _ _ _ _ _ _).mono ?_
  rintro e w1 ⟨rfl, q1, rfl⟩
  rw [E1]
  generalize partN net share 1000000 1 0 = p at *
  clear E1
  go_wp2
  all_goals go_ret2
  all_goals exact ⟨congrArg (fun n : Int => Ending.returned (Value.tuple #[.int .i64 n, .int .i64 0])) (by rw [HH.out]; omega), q1, rfl⟩
set_option maxHeartbeats 1000000 in
theorem hold_any (debt net keep share : Int) (w : World) (h1 : 0 ≤ net) (h2 : net ≤ 1000000000) (h3 : 0 ≤ keep) (h4 : keep ≤ 1000000000) (h5 : 0 ≤ share) (h6 : share ≤ 1000000) :
    Calls Try.prog 40 #[.int .i64 debt, .int .i64 net, .int .i64 keep, .int .i64 share] w fun e w' => e = .returned (.int .i64 (holdN debt net keep share)) ∧ w = w' := by
  obtain ⟨E1, E2, E3⟩ := rate_part net share 0 h1 (by omega) h5 h6 rfl
  have HH : Hid (holdN debt net keep share = min (min debt (partN net share 1000000 1 0)) (max (net - keep) 0)) := rfl
  go_enter Try.func40, Try.ntmps40
  go_wp2_with fail
  refine (part2_any _ _ _ _ _ _).mono ?_
  rintro e w1 ⟨rfl, rfl⟩
  rw [E1]
  generalize partN net share 1000000 1 0 = p at *
  clear E1
  go_wp2
  all_goals go_ret
  all_goals exact ⟨congrArg (fun n : Int => Ending.returned (.int .i64 n)) (by rw [HH.out]; omega), rfl⟩

def recOk (balance net keep share : Int) : Bool := inB balance (-1000000000000) 1000000000000 && inB net 0 1000000000 && inB keep 0 1000000000 && inB share 0 1000000
def recPay (balance net keep share : Int) : Int := if net ≤ balance then balance else net - holdN (net - balance) net keep share
/-- What Recover hands back. -/
def recV (balance net keep share : Int) : Value := if recOk balance net keep share then .tuple #[.int .i64 (recPay balance net keep share), .int .i64 (balance - recPay balance net keep share), .int .i64 0] else .tuple #[.int .i64 0, .int .i64 0, .int .i64 2]
theorem holdN_bd (debt net keep share : Int) (hd : 0 ≤ debt) (h1 : 0 ≤ net) (h2 : net ≤ 1000000000) (h5 : 0 ≤ share) (h6 : share ≤ 1000000) : 0 ≤ holdN debt net keep share ∧ holdN debt net keep share ≤ debt ∧ holdN debt net keep share ≤ net := by
  obtain ⟨E1, E2, E3⟩ := rate_part net share 0 h1 (by omega) h5 h6 rfl
  unfold holdN
  omega

set_option maxHeartbeats 2000000 in
theorem recover_any (b n k s : Int) (w : World) :
    Calls Try.prog 22 #[.int .i64 b, .int .i64 n, .int .i64 k, .int .i64 s] w fun e w' => e = .returned (recV b n k s) ∧ ∃ q, w' = w.drewN q := by
  rcases hok : recOk b n k s with _ | _
  · rw [recV, hok]
    have HOK := Lib.hid hok
    clear hok
    rw [if_neg (by simp)]
    by_cases c0 : inB b (-1000000000000) 1000000000000 = true
    rotate_left
    · go_enter Try.func22, Try.ntmps22
      go_wp2_with (go_at_call 36; refine (within_any _ _ _ _).mono ?_; rintro e w' ⟨rfl, rfl⟩)
      go_ret3
      exact ⟨rfl, 0, rfl⟩
    by_cases c1 : inB n 0 1000000000 = true
    rotate_left
    · go_enter Try.func22, Try.ntmps22
      go_wp2_with (go_at_call 36; refine (within_any _ _ _ _).mono ?_; rintro e w' ⟨rfl, rfl⟩)
      go_ret3
      exact ⟨rfl, 0, rfl⟩
    by_cases c2 : inB k 0 1000000000 = true
    rotate_left
    · go_enter Try.func22, Try.ntmps22
      go_wp2_with (go_at_call 36; refine (within_any _ _ _ _).mono ?_; rintro e w' ⟨rfl, rfl⟩)
      go_ret3
      exact ⟨rfl, 0, rfl⟩
    by_cases c3 : inB s 0 1000000 = true
    rotate_left
    · go_enter Try.func22, Try.ntmps22
      go_wp2_with (go_at_call 36; refine (within_any _ _ _ _).mono ?_; rintro e w' ⟨rfl, rfl⟩)
      go_ret3
      exact ⟨rfl, 0, rfl⟩
    skip
    exfalso
    have := HOK.out
    simp [recOk, c0, c1, c2, c3] at this
  · rw [recV, hok, if_pos rfl]
    simp only [recOk, Bool.and_eq_true] at hok
    obtain ⟨⟨⟨o1, o2⟩, o3⟩, o4⟩ := hok
    have p1 : -1000000000000 ≤ b ∧ b ≤ 1000000000000 := by simpa [inB] using o1
    have p2 : 0 ≤ n ∧ n ≤ 1000000000 := by simpa [inB] using o2
    have p3 : 0 ≤ k ∧ k ≤ 1000000000 := by simpa [inB] using o3
    have p4 : 0 ≤ s ∧ s ≤ 1000000 := by simpa [inB] using o4
    obtain ⟨p1a, p1b⟩ := p1
    obtain ⟨p2a, p2b⟩ := p2
    obtain ⟨p3a, p3b⟩ := p3
    obtain ⟨p4a, p4b⟩ := p4
    by_cases hb : n ≤ b
    · have HP : Hid (recPay b n k s = b) := by rw [Hid, recPay, if_pos hb]
      go_enter Try.func22, Try.ntmps22
      go_wp2_with (go_at_call 36; refine (within_any _ _ _ _).mono ?_; rintro e w' ⟨rfl, rfl⟩)
      go_ret3
      exact ⟨by rw [HP.out, Int.sub_self]; rfl, 0, rfl⟩
    · have HP : Hid (recPay b n k s = n - holdN (n - b) n k s) := by rw [Hid, recPay, if_neg hb]
      have hh := holdN_bd (n - b) n k s (by omega) p2a p2b p4a p4b
      obtain ⟨hh1, hh2, hh3⟩ := hh
      go_enter Try.func22, Try.ntmps22
      go_wp2_with (go_at_call 36; refine (within_any _ _ _ _).mono ?_; rintro e w' ⟨rfl, rfl⟩)
      refine (reduction_any _ _ _ _ _ p2a p2b p3a p3b p4a p4b).mono ?_
      rintro e w1 ⟨rfl, q1, rfl⟩
      generalize holdN (n - b) n k s = hh at *
      go_wp2
      go_ret3
      exact ⟨by rw [HP.out]; rfl, q1, rfl⟩

set_option maxHeartbeats 2000000 in
theorem recover37_any (b n k s : Int) (w : World) :
    Calls Try.prog 23 #[.int .i64 b, .int .i64 n, .int .i64 k, .int .i64 s] w fun e w' => e = .returned (recV b n k s) ∧ w = w' := by
  rcases hok : recOk b n k s with _ | _
  · rw [recV, hok]
    have HOK := Lib.hid hok
    clear hok
    rw [if_neg (by simp)]
    by_cases c0 : -1000000000000 ≤ b
    rotate_left
    · go_enter Try.func23, Try.ntmps23
      go_wp2_with (go_at_call 39; refine (in37_any _ _ _).mono ?_; rintro e w' ⟨rfl, rfl⟩)
      go_ret3
      exact ⟨rfl, rfl⟩
    by_cases c1 : b ≤ 1000000000000
    rotate_left
    · go_enter Try.func23, Try.ntmps23
      go_wp2_with (go_at_call 39; refine (in37_any _ _ _).mono ?_; rintro e w' ⟨rfl, rfl⟩)
      go_ret3
      exact ⟨rfl, rfl⟩
    by_cases c2 : inB n 0 1000000000 = true
    rotate_left
    · go_enter Try.func23, Try.ntmps23
      go_wp2_with (go_at_call 39; refine (in37_any _ _ _).mono ?_; rintro e w' ⟨rfl, rfl⟩)
      go_ret3
      exact ⟨rfl, rfl⟩
    by_cases c3 : inB k 0 1000000000 = true
    rotate_left
    · go_enter Try.func23, Try.ntmps23
      go_wp2_with (go_at_call 39; refine (in37_any _ _ _).mono ?_; rintro e w' ⟨rfl, rfl⟩)
      go_ret3
      exact ⟨rfl, rfl⟩
    by_cases c4 : inB s 0 1000000 = true
    rotate_left
    · go_enter Try.func23, Try.ntmps23
      go_wp2_with (go_at_call 39; refine (in37_any _ _ _).mono ?_; rintro e w' ⟨rfl, rfl⟩)
      go_ret3
      exact ⟨rfl, rfl⟩
    skip
    exfalso
    have := HOK.out
    rw [recOk, inB_yes c0 c1] at this
    simp [c2, c3, c4] at this
  · rw [recV, hok, if_pos rfl]
    simp only [recOk, Bool.and_eq_true] at hok
    obtain ⟨⟨⟨o1, o2⟩, o3⟩, o4⟩ := hok
    have p1 : -1000000000000 ≤ b ∧ b ≤ 1000000000000 := by simpa [inB] using o1
    have p2 : 0 ≤ n ∧ n ≤ 1000000000 := by simpa [inB] using o2
    have p3 : 0 ≤ k ∧ k ≤ 1000000000 := by simpa [inB] using o3
    have p4 : 0 ≤ s ∧ s ≤ 1000000 := by simpa [inB] using o4
    obtain ⟨p1a, p1b⟩ := p1
    obtain ⟨p2a, p2b⟩ := p2
    obtain ⟨p3a, p3b⟩ := p3
    obtain ⟨p4a, p4b⟩ := p4
    by_cases hb : n ≤ b
    · have HP : Hid (recPay b n k s = b) := by rw [Hid, recPay, if_pos hb]
      go_enter Try.func23, Try.ntmps23
      go_wp2_with (go_at_call 39; refine (in37_any _ _ _).mono ?_; rintro e w' ⟨rfl, rfl⟩)
      go_ret3
      exact ⟨by rw [HP.out, Int.sub_self]; simp, rfl⟩
    · have HP : Hid (recPay b n k s = n - holdN (n - b) n k s) := by rw [Hid, recPay, if_neg hb]
      have hh := holdN_bd (n - b) n k s (by omega) p2a p2b p4a p4b
      obtain ⟨hh1, hh2, hh3⟩ := hh
      go_enter Try.func23, Try.ntmps23
      go_wp2_with (go_at_call 39; refine (in37_any _ _ _).mono ?_; rintro e w' ⟨rfl, rfl⟩)
      refine (hold_any _ _ _ _ _ p2a p2b p3a p3b p4a p4b).mono ?_
      rintro e w1 ⟨rfl, rfl⟩
      generalize holdN (n - b) n k s = hh at *
      go_wp2
      go_ret3
      exact ⟨by rw [HP.out]; rfl, rfl⟩

end Go.Proofs.Ytnbfhnhneakajaa
