/- Comparing ints: contracts of cmp.Compare and cmp.Or at ints. Conditions: as stated. -/
import Derived.Test.YtbiajkknpkeeoaaRows
import Derived.Test.YtbiajkknpkeeoaaData2
import Derived.WalkKit
import Derived.WalkSpells
import Derived.WalkLawsBesides
import Derived.Deep.QuietTactic
import Derived.BigQuiet
import Derived.Lib.Hide
namespace Go.Proofs.Ytbiajkknpkeeoaa
open Go.RowKit

def cmpI (a b : Int) : Int := if a < b then -1 else if b < a then 1 else 0
def maxN (n : Int) : Bool := decide (-1000000000000 ≤ n ∧ n ≤ 1000000000000)
set_option maxHeartbeats 400000 in
theorem isNaNI_any (a : Int) (w : World) : Calls Try.prog 79 #[.int .i64 a] w fun e w' => e = .returned (.bool false) ∧ w = w' := by
  go_enter Try.func79, Try.ntmps79
  go_wp2
  go_ret
  exact ⟨by simp, rfl⟩
set_option maxHeartbeats 400000 in
theorem compareI_any (a b : Int) (w : World) : Calls Try.prog 61 #[.int .i64 a, .int .i64 b] w fun e w' => e = .returned (.int .i64 (cmpI a b)) ∧ w = w' := by
  go_enter Try.func61, Try.ntmps61
  go_wp2_with (go_at_call 79; refine (isNaNI_any _ _).mono ?_; rintro e w' ⟨rfl, rfl⟩)
  all_goals go_ret
  all_goals refine ⟨?_, rfl⟩
  all_goals (simp [cmpI, *]; try omega)
def orI (a b : Int) : Int := if a ≠ 0 then a else b
set_option maxHeartbeats 1000000 in
theorem or_any (a b : Int) (c g off : Nat) (w : World) (h1 : w.cell? ⟨g, off, none⟩ = some (.int .i64 a)) (h2 : w.cell? ⟨g, off + 1, none⟩ = some (.int .i64 b)) :
    Calls Try.prog 60 #[.slice (some ⟨g, off, none⟩) 2 c] w fun e w' => e = .returned (.int .i64 (orI a b)) ∧ w = w' := by
  by_cases ha : a = 0
  · have HO : Hid (orI a b = b) := by simp [Hid, orI, ha]
    have ha' : (a != 0) = false := by simp [ha]
    clear ha
    by_cases hb : b = 0
    · have HB := Lib.hid hb
      have hb' : (b != 0) = false := by simp [hb]
      clear hb
      go_enter Try.func60, Try.ntmps60
      go_wp2
      refine wp_loop_rounds 3 ?_
      rw [rounds_succ]
      go_wp2
      rw [rounds_succ]
      go_wp2
      rw [rounds_succ]
      go_wp2
      go_ret
      exact ⟨by rw [HO.out, HB.out]; rfl, rfl⟩
    · have hb' : (b != 0) = true := by simp [hb]
      clear hb
      go_enter Try.func60, Try.ntmps60
      go_wp2
      refine wp_loop_rounds 2 ?_
      rw [rounds_succ]
      go_wp2
      rw [rounds_succ]
      go_wp2
      go_ret
      exact ⟨by rw [HO.out]; rfl, rfl⟩
  · have HO : Hid (orI a b = a) := by simp [Hid, orI, ha]
    have ha' : (a != 0) = true := by simp [ha]
    clear ha
    go_enter Try.func60, Try.ntmps60
    go_wp2
    refine wp_loop_rounds 1 ?_
    rw [rounds_succ]
    go_wp2
    go_ret
    exact ⟨by rw [HO.out]; rfl, rfl⟩

end Go.Proofs.Ytbiajkknpkeeoaa
