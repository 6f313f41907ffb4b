/- Contract of payrolllaw26.awake: it returns true. Conditions: none. -/
import Derived.Test.YtlfefcfddpmccaaOf
namespace Go.Proofs.Ytlfefcfddpmccaa
open Go.RowKit

def awW : List WageT := [⟨⟨#[98, 97, 115, 101]⟩, 1, true, true, true, 4000⟩, ⟨⟨#[99, 97, 114]⟩, 2, true, false, false, 4001⟩]
def awE : List Elem := [⟨⟨#[98, 97, 115, 101]⟩, 3000⟩, ⟨⟨#[99, 97, 114]⟩, 200⟩]
def awM : List Elem := [⟨⟨#[97]⟩, 5⟩, ⟨⟨#[98]⟩, 1⟩, ⟨⟨#[97]⟩, -5⟩]
theorem aw1 : validB awW = true := by decide +kernel
theorem aw2 : ofErr awW awE awE = 0 := by decide +kernel
theorem aw3 : sumB awW awE = ⟨3200, 3000, 3200, 3000, 3000⟩ := by decide +kernel
theorem aw4 : preErr awM = 0 := by decide +kernel
theorem aw5 : mergeR awM = [⟨⟨#[98]⟩, 1⟩] := by decide +kernel

theorem awEq (w : World) : Sem.run Try.prog (binOp .eql 52 (.agg #[.int .i64 3200, .int .i64 3000, .int .i64 3200, .int .i64 3000, .int .i64 3000]) (.agg #[.int .i64 3200, .int .i64 3000, .int .i64 3200, .int .i64 3000, .int .i64 3000])) w = .ok (.bool true) w := by kernel_rfl
theorem guardB : Try.prog.eqGuardType Try.prog.depth 52 = false := by kernel_rfl
theorem awOf : ofV awW awE awE = .tuple #[.agg #[.int .i64 3200, .int .i64 3000, .int .i64 3200, .int .i64 3000, .int .i64 3000], .int .i64 0] := by
  rw [ofV, aw2, aw3]; rfl

set_option maxRecDepth 100000 in
set_option maxHeartbeats 2000000 in
theorem awake_any (w : World) : Calls Try.prog 11 #[] w fun e w' => e = .returned (.bool true) ∧ Below w.heap.size w w' := by
  have heq := awEq
  have hgd := guardB
  go_enter Try.func11, Try.ntmps11
  go_wp2_with fail
  have hW := SliceOf.new encW_len w awW _ 31 rfl
  have hWb : Below w.heap.size w (w.alloc (.cells _ 31)) := (Below.refl _ _).alloc (Nat.le_refl _) (.cells (awW.flatMap encW).toArray 31)
  have hE := SliceOf.new encE_len (w.alloc (.cells (awW.flatMap encW).toArray 31)) awE _ 44 rfl
  rw [show (w.alloc (.cells (awW.flatMap encW).toArray 31)).heap.size = w.heap.size + 1 by simp] at hE
  refine (of_any _ _ 2 2 awW awE _ ?_ (by decide) (by simp [awW]) ?_ (by decide) (by simp [awE])).mono ?_
  · exact (hW.below ((Below.refl _ _).alloc (by simp) _)).more (by simp)
  · exact hE.more (by simp)
  rintro e w1 ⟨rfl, hb1⟩
  rw [awOf]
  have hs1 : w.heap.size + 1 + 1 ≤ w1.heap.size := by have := hb1.size; simpa using this
  have hbel1 : Below (w.heap.size + 1) (w.alloc (.cells (awW.flatMap encW).toArray 31)) w1 := ((Below.refl _ _).alloc (by simp) _).trans (hb1.mono (by simp))
  have hW1 := hW.below hbel1
  have hw1 : Below w.heap.size w w1 := hWb.trans (hbel1.mono (by omega))
  clear hb1 hE hbel1 hW hWb
  go_wp2_with fail
  have hM := SliceOf.new encE_len (w1.alloc (.cells #[.int .i64 3200, .int .i64 3000, .int .i64 3200, .int .i64 3000, .int .i64 3000] 52)) awM _ 44 rfl
  rw [show (w1.alloc (.cells #[.int .i64 3200, .int .i64 3000, .int .i64 3200, .int .i64 3000, .int .i64 3000] 52)).heap.size = w1.heap.size + 1 by simp] at hM
  have hBs := (Blk.new w1 52 #[.int .i64 3200, .int .i64 3000, .int .i64 3200, .int .i64 3000, .int .i64 3000])
  refine (merge_any _ 3 awM _ (hM.more (by simp)) (by decide) (by simp [awM])).mono ?_
  rintro e w2 ⟨A2, c2, rfl, hS2, hc2, hcm2, hb2⟩
  rw [aw4]
  rw [aw5] at hS2 hc2 ⊢
  have hs2 : w1.heap.size + 1 + 1 ≤ w2.heap.size := by have := hb2.size; simpa using this
  have hBs2 := Blk.below (hBs.alloc (.cells (awM.flatMap encE).toArray 44)) hb2 (by rw [World.size_alloc, World.size_alloc]; omega)
  have hbel2 : Below w1.heap.size w1 w2 := by
    have h1 : Below w1.heap.size w1 ((w1.alloc (.cells #[.int .i64 3200, .int .i64 3000, .int .i64 3200, .int .i64 3000, .int .i64 3000] 52)).alloc (.cells (awM.flatMap encE).toArray 44)) := ((Below.refl _ _).alloc (Nat.le_refl _) _).alloc (by simp) _
    exact h1.trans (hb2.mono (by rw [World.size_alloc, World.size_alloc]; omega))
  have hW2 := (hW1.below (hbel2.mono (by omega)))
  have hw2 : Below w.heap.size w w2 := hw1.trans (hbel2.mono (by omega))
  obtain ⟨b2, off2, rfl, hb2', hc2'⟩ := hS2 (by simp)
  have m0 := hc2' 0 _ rfl 0 _ rfl
  simp only [Nat.zero_mul, Nat.add_zero] at m0
  clear hb2 hM hS2 hc2' hW1 hbel2
  go_wp2_with fail
  refine (valid_any _ 2 awW _ (hW2.more (by omega)) (by decide) (by simp [awW])).mono ?_
  rintro e w3 ⟨rfl, hb3⟩
  rw [aw1]
  have m0' := (hb3.cell (p := ⟨b2, off2, none⟩) hb2').trans m0
  have hBs3 := hBs2.below hb3 (by omega)
  have z0 := hBs3.cell 0
  have z1 := hBs3.cell 1
  have z2 := hBs3.cell 2
  have z3 := hBs3.cell 3
  have z4 := hBs3.cell 4
  simp only [List.getElem?_toArray, List.getElem?_cons_zero, List.getElem?_cons_succ] at z0 z1 z2 z3 z4
  have hw3 : Below w.heap.size w w3 := hw2.trans (hb3.mono (by omega))
  clear hb3 m0 hBs2 hBs
  go_wp2
  go_ret
  exact ⟨rfl, hw3⟩

end Go.Proofs.Ytlfefcfddpmccaa
