/- Contracts of cmp.Compare at strings and cmp.Or at ints. Conditions: as stated. -/
import Derived.Test.YtcpkdpflkjjlcaaRound
namespace Go.Proofs.Ytcpkdpflkjjlcaa
open Go.RowKit

def cmpS (a b : ByteArray) : Int := if Op.bytesLess a.toList b.toList then -1 else if !(Op.bytesLess a.toList b.toList || a.toList == b.toList) then 1 else 0
set_option maxHeartbeats 400000 in
theorem isNaN_any (a : ByteArray) (w : World) : Calls Try.prog 61 #[.string a] w fun e w' => e = .returned (.bool false) ∧ w = w' := by
  go_enter Try.func61, Try.ntmps61
  go_wp2
  go_ret
  exact ⟨by simp, rfl⟩
set_option maxHeartbeats 400000 in
theorem compare_any (a b : ByteArray) (w : World) : Calls Try.prog 45 #[.string a, .string b] w fun e w' => e = .returned (.int .i64 (cmpS a b)) ∧ w = w' := by
  go_enter Try.func45, Try.ntmps45
  go_wp2_with (go_at_call 61; refine (isNaN_any _ _).mono ?_; rintro e w' ⟨rfl, rfl⟩)
  all_goals go_ret
  all_goals refine ⟨?_, rfl⟩
  all_goals (simp [cmpS, *]; try simp_all)
def orI (a b : Int) : Int := if a ≠ 0 then a else b
set_option maxHeartbeats 1000000 in
theorem or_any (a b : Int) (c g off : Nat) (w : World) (h1 : w.cell? ⟨g, off, none⟩ = some (.int .i64 a)) (h2 : w.cell? ⟨g, off + 1, none⟩ = some (.int .i64 b)) :
    Calls Try.prog 43 #[.slice (some ⟨g, off, none⟩) 2 c] w fun e w' => e = .returned (.int .i64 (orI a b)) ∧ w = w' := by
  by_cases ha : a = 0
  · have HO : Hid (orI a b = b) := by simp [Hid, orI, ha]
    have ha' : (a != 0) = false := by simp [ha]
    clear ha
    by_cases hb : b = 0
    · have HB := Lib.hid hb
      have hb' : (b != 0) = false := by simp [hb]
      clear hb
      go_enter Try.func43, Try.ntmps43
      go_wp2
      refine wp_loop_rounds 3 ?_
      rw [rounds_succ]
      go_wp2
      rw [rounds_succ]
      go_wp2
      rw [rounds_succ]
      go_wp2
      go_ret
      exact ⟨by rw [HO.out, HB.out]; rfl, rfl⟩
    · have hb' : (b != 0) = true := by simp [hb]
      clear hb
      go_enter Try.func43, Try.ntmps43
      go_wp2
      refine wp_loop_rounds 2 ?_
      rw [rounds_succ]
      go_wp2
      rw [rounds_succ]
      go_wp2
      go_ret
      exact ⟨by rw [HO.out]; rfl, rfl⟩
  · have HO : Hid (orI a b = a) := by simp [Hid, orI, ha]
    have ha' : (a != 0) = true := by simp [ha]
    clear ha
    go_enter Try.func43, Try.ntmps43
    go_wp2
    refine wp_loop_rounds 1 ?_
    rw [rounds_succ]
    go_wp2
    go_ret
    exact ⟨by rw [HO.out]; rfl, rfl⟩

end Go.Proofs.Ytcpkdpflkjjlcaa
