/- Contracts of payrolllaw44's base, wages and awake. Conditions: none. -/
import Derived.Test.YtbiajkknpkeeoaaEntW
import Derived.Test.YtbiajkknpkeeoaaBal
namespace Go.Proofs.Ytbiajkknpkeeoaa
open Go.RowKit

def baW : List WageT := [⟨⟨#[98, 97, 115, 101]⟩, 1, false, false, false, 4000⟩]
set_option maxRecDepth 100000 in
set_option maxHeartbeats 1000000 in
theorem base_any (w : World) : Calls Try.prog 15 #[] w fun e w' => ∃ A c, e = .returned (.slice A baW.length c) ∧ SliceOf encW 6 w' w'.heap.size A baW ∧ Below w.heap.size w w' := by
  go_enter Try.func15, Try.ntmps15
  go_wp2
  have hN := SliceOf.new encW_len w baW _ 68 rfl
  go_ret
  exact ⟨some ⟨w.heap.size, 0, none⟩, 1, rfl, hN.more (by simp), below_new _ _⟩

def awP : List PostT := [⟨1, 1, 0, ⟨1, ⟨#[98, 97, 115, 101]⟩, 100⟩⟩, ⟨1, 1, 0, ⟨6, ⟨#[]⟩, 30⟩⟩, ⟨1, 1, 0, ⟨9, ⟨#[]⟩, 70⟩⟩]
def awB : List BookT := [⟨1, 100, -70⟩, ⟨1, 102, -30⟩, ⟨1, 4000, 100⟩]
theorem aw1 : eErr baW awP = 0 := by decide +kernel
theorem aw2 : eRes baW awP = awB := by decide +kernel
theorem aw3 : balB awB = true := by decide +kernel
theorem awEq (w : World) : Sem.run Try.prog (binOp .eql 42 (.agg #[.int .i64 1, .int .i64 100, .int .i64 (-70)]) (.agg #[.int .i64 1, .int .i64 100, .int .i64 (-70)])) w = .ok (.bool true) w := by kernel_rfl
theorem guardBk : Try.prog.eqGuardType Try.prog.depth 42 = false := by kernel_rfl

set_option maxRecDepth 100000 in
set_option maxHeartbeats 2000000 in
theorem awake_any (w : World) : Calls Try.prog 9 #[] w fun e w' => e = .returned (.bool true) ∧ Below w.heap.size w w' := by
  have heq := awEq
  have hgd := guardBk
  go_enter Try.func9, Try.ntmps9
  go_wp2_with fail
  have hL0 := SliceOf.new encP_len w awP (awP.flatMap encP).toArray 28 rfl
  have hL := hL0.more (B' := (w.alloc (.cells (awP.flatMap encP).toArray 28)).heap.size) (by simp)
  have hbelL : Below w.heap.size w (w.alloc (.cells (awP.flatMap encP).toArray 28)) := below_new _ _
  rw [show (awP.flatMap encP).toArray = #[.int .i64 1, .int .i64 1, .int .i64 0, .int .i64 1, .string ⟨#[98, 97, 115, 101]⟩, .int .i64 100, .int .i64 1, .int .i64 1, .int .i64 0, .int .i64 6, .string ⟨#[]⟩, .int .i64 30, .int .i64 1, .int .i64 1, .int .i64 0, .int .i64 9, .string ⟨#[]⟩, .int .i64 70] from rfl] at hL hbelL
  generalize w.alloc (Obj.cells _ _) = W at hL hbelL ⊢
  refine (base_any _).mono ?_
  rintro e w1 ⟨A1, c1, rfl, hS1, hb1⟩
  go_wp2_with fail
  have hcon := Entries_any A1 (some ⟨w.heap.size, 0, none⟩) c1 3 baW awP w1 hS1 (by decide) (by simp [baW]) (hL.adv hb1) (by decide) (by simp [awP])
  have HC := Lib.hid hcon
  clear hcon
  refine Calls.mono HC.out ?_
  rintro e w2 ⟨A2, c2, rfl, hS2, hlc2, hcm2, hb2⟩
  rw [aw1]
  rw [aw2] at hS2 hlc2 ⊢
  have hbel2 := bel_adv (bel_adv hbelL hb1) hb2
  clear HC hS1 hb1 hb2 hL hbelL
  have hS2' := hS2
  obtain ⟨b, off, rfl, hb, hc⟩ := hS2 (by simp [awB])
  have d0 := hc 0 _ rfl 0 _ rfl
  have d1 := hc 0 _ rfl 1 _ rfl
  have d2 := hc 0 _ rfl 2 _ rfl
  have d8 := hc 2 _ rfl 2 _ rfl
  simp only [Nat.zero_mul, Nat.add_zero, Nat.reduceMul, Nat.add_assoc, Nat.reduceAdd] at d0 d1 d2 d8
  clear hc
  have hcon := balanced_any (some ⟨b, off, none⟩) c2 awB w2 hS2' (by simp [awB])
  rw [aw3] at hcon
  have HC := Lib.hid hcon
  clear hcon hS2'
  go_wp2_with fail
  refine Calls.mono HC.out ?_
  rintro e w3 ⟨rfl, hb3⟩
  go_wp2
  go_ret
  exact ⟨rfl, bel_adv hbel2 hb3⟩

end Go.Proofs.Ytbiajkknpkeeoaa
