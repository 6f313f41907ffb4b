/- Contracts of the functions Find, Same, short, ShortElements and Amount. Conditions: as stated in each theorem. -/
import Derived.Test.YtbiajkknpkeeoaaWage
import Derived.Test.YtbiajkknpkeeoaaData2
namespace Go.Proofs.Ytbiajkknpkeeoaa
open Go.RowKit

def zeroW : WageT := ⟨⟨#[]⟩, 0, false, false, false, 0⟩
def hasC (c : ByteArray) (x : WageT) : Bool := x.code.toList == c.toList
def findW (xs : List WageT) (c : ByteArray) : Option WageT := xs.find? (hasC c)
def foundV (o : Option WageT) : Value := .tuple #[.agg (encW (o.getD zeroW)).toArray, .bool o.isSome]
theorem findW_some {xs : List WageT} {c : ByteArray} {k : Nat} (hk : k < xs.length) (h : ∀ j, (hj : j < xs.length) → j < k → hasC c xs[j] = false) (hh : hasC c xs[k] = true) : findW xs c = some xs[k] := by
  unfold findW
  rw [List.find?_eq_some_iff_getElem]
  refine ⟨hh, k, hk, rfl, fun j hj => ?_⟩
  rw [h j (by omega) hj]; rfl
theorem findW_none {xs : List WageT} {c : ByteArray} (h : ∀ j, (hj : j < xs.length) → hasC c xs[j] = false) : findW xs c = none := by
  unfold findW
  rw [List.find?_eq_none]
  intro x hx
  obtain ⟨j, hj, rfl⟩ := List.mem_iff_getElem.1 hx
  rw [h j hj]; simp

set_option maxHeartbeats 1000000 in
theorem find_any (A : Option Addr) (cap : Nat) (xs : List WageT) (c : ByteArray) (w : World) (h : SliceOf encW 6 w w.heap.size A xs) (hl : xs.length ≤ 9223372036854775806) :
    Calls Try.prog 54 #[.slice A xs.length cap, .string c] w fun e w' => e = .returned (foundV (findW xs c)) ∧ Below w.heap.size w w' := by
  go_enter Try.func54, Try.ntmps54
  go_wp2
  go_loopw [10] (fun i wr => ∃ k : Nat, k ≤ xs.length ∧ i = .int .i64 k ∧ Hid (∀ j, (hj : j < xs.length) → j < k → hasC c xs[j] = false) ∧ Below w.heap.size w wr ∧ Blk wr w.heap.size 68 (encW zeroW).toArray) (fun i _ => xs.length - (intOf i).toNat)
  case atStart => exact ⟨0, by omega, rfl, fun j _ hj => absurd hj (by omega), (Below.refl _ _).alloc (Nat.le_refl _) _, Blk.new _ _ _⟩
  case round =>
    obtain ⟨k, hk, rfl, hall, hbel, hblk⟩ := hrel
    have hz := hblk.lt
    have z0 := hblk.cell 0
    have z1 := hblk.cell 1
    have z2 := hblk.cell 2
    have z3 := hblk.cell 3
    have z4 := hblk.cell 4
    have z5 := hblk.cell 5
    have f0 := hblk.frozen 0
    have f1 := hblk.frozen 1
    have f2 := hblk.frozen 2
    have f3 := hblk.frozen 3
    have f4 := hblk.frozen 4
    have f5 := hblk.frozen 5
    simp only [encW, zeroW, List.getElem?_toArray, List.getElem?_cons_zero, List.getElem?_cons_succ] at z0 z1 z2 z3 z4 z5
    by_cases hlt : k < xs.length
    · obtain ⟨b, off, rfl, hb, hc⟩ := (h.below hbel).at_ hlt
      have c0 := hc 0 _ rfl
      have c1 := hc 1 _ rfl
      have c2 := hc 2 _ rfl
      have c3 := hc 3 _ rfl
      have c4 := hc 4 _ rfl
      have c5 := hc 5 _ rfl
      simp only [Nat.add_zero] at c0
      clear hc
      have hbb : b < wr.heap.size := by omega
      by_cases ht : (xs[k].code.toList == c.toList) = true
      · have HF := Lib.hid (findW_some hlt hall.out ht)
        go_wp2
        have hfb := (hblk.put6 rfl (.string xs[k].code) (.int .i64 xs[k].kind) (.bool xs[k].taxable) (.bool xs[k].insured) (.bool xs[k].attachable) (.int .i64 xs[k].account)).alloc (Obj.cells #[Value.string xs[k].code, Value.int IntKind.i64 xs[k].kind, Value.bool xs[k].taxable, Value.bool xs[k].insured, Value.bool xs[k].attachable, Value.int IntKind.i64 xs[k].account] 68)
        have hfB : Below w.heap.size w _ := (below_put (below_put (below_put (below_put (below_put (below_put hbel (Nat.le_refl _) 0 (.string xs[k].code)) (Nat.le_refl _) 1 (.int .i64 xs[k].kind)) (Nat.le_refl _) 2 (.bool xs[k].taxable)) (Nat.le_refl _) 3 (.bool xs[k].insured)) (Nat.le_refl _) 4 (.bool xs[k].attachable)) (Nat.le_refl _) 5 (.int .i64 xs[k].account)).alloc (by simp; omega) (Obj.cells #[Value.string xs[k].code, Value.int IntKind.i64 xs[k].kind, Value.bool xs[k].taxable, Value.bool xs[k].insured, Value.bool xs[k].attachable, Value.int IntKind.i64 xs[k].account] 68)
        generalize World.alloc _ _ = WW at hfb hfB ⊢
        have q0 := hfb.cell 0
        have q1 := hfb.cell 1
        have q2 := hfb.cell 2
        have q3 := hfb.cell 3
        have q4 := hfb.cell 4
        have q5 := hfb.cell 5
        simp only [List.getElem?_toArray, List.getElem?_cons_zero, List.getElem?_cons_succ] at q0 q1 q2 q3 q4 q5
        refine bodyPost_ret (v := foundV (some xs[k])) (by simp [results, Try.results54, go_sem, q0, q1, q2, q3, q4, q5, foundV, encW]) rfl ⟨by rw [HF.out], hfB⟩
      · have ht' : (xs[k].code.toList == c.toList) = false := by simpa using ht
        clear ht
        go_wp2
        go_roundw
        case rel =>
          refine ⟨k + 1, by omega, by go_num, fun j hj hjk => ?_, hbel.alloc (by omega) _, hblk.alloc _⟩
          rcases Nat.lt_or_ge j k with h1 | h1
          · exact hall.out j hj h1
          · obtain rfl : j = k := by omega
            exact ht'
        case measure => simp [intOf]; omega
    · have HF := Lib.hid (findW_none (xs := xs) (c := c) (fun j hj => hall.out j hj (by omega)))
      go_wp2
      have hfb := hblk.put6 rfl (.string { data := #[] }) (.int .i64 0) (.bool false) (.bool false) (.bool false) (.int .i64 0)
      have hfB : Below w.heap.size w _ := below_put (below_put (below_put (below_put (below_put (below_put hbel (Nat.le_refl _) 0 (.string { data := #[] })) (Nat.le_refl _) 1 (.int .i64 0)) (Nat.le_refl _) 2 (.bool false)) (Nat.le_refl _) 3 (.bool false)) (Nat.le_refl _) 4 (.bool false)) (Nat.le_refl _) 5 (.int .i64 0)
      generalize World.setCell _ _ (Value.int .i64 0) = WW at hfb hfB ⊢
      have q0 := hfb.cell 0
      have q1 := hfb.cell 1
      have q2 := hfb.cell 2
      have q3 := hfb.cell 3
      have q4 := hfb.cell 4
      have q5 := hfb.cell 5
      simp only [List.getElem?_toArray, List.getElem?_cons_zero, List.getElem?_cons_succ] at q0 q1 q2 q3 q4 q5
      refine bodyPost_ret (v := foundV none) (by simp [results, Try.results54, go_sem, q0, q1, q2, q3, q4, q5, foundV, encW, zeroW]) rfl ⟨by rw [HF.out], hfB⟩

set_option maxHeartbeats 1000000 in
theorem find26_any (A : Option Addr) (cap : Nat) (xs : List WageT) (c : ByteArray) (w : World) (h : SliceOf encW 6 w w.heap.size A xs) (hl : xs.length ≤ 9223372036854775806) :
    Calls Try.prog 57 #[.slice A xs.length cap, .string c] w fun e w' => e = .returned (foundV (findW xs c)) ∧ Below w.heap.size w w' := by
  go_enter Try.func57, Try.ntmps57
  go_wp2
  go_loopw [6] (fun i wr => ∃ k : Nat, k ≤ xs.length ∧ i = .int .i64 k ∧ Hid (∀ j, (hj : j < xs.length) → j < k → hasC c xs[j] = false) ∧ Below w.heap.size w wr ∧ Blk wr w.heap.size 68 (encW zeroW).toArray) (fun i _ => xs.length - (intOf i).toNat)
  case atStart => exact ⟨0, by omega, rfl, fun j _ hj => absurd hj (by omega), (Below.refl _ _).alloc (Nat.le_refl _) _, Blk.new _ _ _⟩
  case round =>
    obtain ⟨k, hk, rfl, hall, hbel, hblk⟩ := hrel
    have hz := hblk.lt
    have z0 := hblk.cell 0
    have z1 := hblk.cell 1
    have z2 := hblk.cell 2
    have z3 := hblk.cell 3
    have z4 := hblk.cell 4
    have z5 := hblk.cell 5
    have f0 := hblk.frozen 0
    have f1 := hblk.frozen 1
    have f2 := hblk.frozen 2
    have f3 := hblk.frozen 3
    have f4 := hblk.frozen 4
    have f5 := hblk.frozen 5
    simp only [encW, zeroW, List.getElem?_toArray, List.getElem?_cons_zero, List.getElem?_cons_succ] at z0 z1 z2 z3 z4 z5
    by_cases hlt : k < xs.length
    · obtain ⟨b, off, rfl, hb, hc⟩ := (h.below hbel).at_ hlt
      have c0 := hc 0 _ rfl
      have c1 := hc 1 _ rfl
      have c2 := hc 2 _ rfl
      have c3 := hc 3 _ rfl
      have c4 := hc 4 _ rfl
      have c5 := hc 5 _ rfl
      simp only [Nat.add_zero] at c0
      clear hc
      have hbb : b < wr.heap.size := by omega
      by_cases ht : (xs[k].code.toList == c.toList) = true
      · have HF := Lib.hid (findW_some hlt hall.out ht)
        go_wp2
        have hfb := hblk.put6 rfl (.string xs[k].code) (.int .i64 xs[k].kind) (.bool xs[k].taxable) (.bool xs[k].insured) (.bool xs[k].attachable) (.int .i64 xs[k].account)
        have hfB : Below w.heap.size w _ := below_put (below_put (below_put (below_put (below_put (below_put hbel (Nat.le_refl _) 0 (.string xs[k].code)) (Nat.le_refl _) 1 (.int .i64 xs[k].kind)) (Nat.le_refl _) 2 (.bool xs[k].taxable)) (Nat.le_refl _) 3 (.bool xs[k].insured)) (Nat.le_refl _) 4 (.bool xs[k].attachable)) (Nat.le_refl _) 5 (.int .i64 xs[k].account)
        generalize World.setCell _ _ (Value.int .i64 xs[k].account) = WW at hfb hfB ⊢
        have q0 := hfb.cell 0
        have q1 := hfb.cell 1
        have q2 := hfb.cell 2
        have q3 := hfb.cell 3
        have q4 := hfb.cell 4
        have q5 := hfb.cell 5
        simp only [List.getElem?_toArray, List.getElem?_cons_zero, List.getElem?_cons_succ] at q0 q1 q2 q3 q4 q5
        refine bodyPost_ret (v := foundV (some xs[k])) (by simp [results, Try.results57, go_sem, q0, q1, q2, q3, q4, q5, foundV, encW]) rfl ⟨by rw [HF.out], hfB⟩
      · have ht' : (xs[k].code.toList == c.toList) = false := by simpa using ht
        clear ht
        go_wp2
        go_roundw
        case rel =>
          refine ⟨k + 1, by omega, by go_num, fun j hj hjk => ?_, hbel, hblk⟩
          rcases Nat.lt_or_ge j k with h1 | h1
          · exact hall.out j hj h1
          · obtain rfl : j = k := by omega
            exact ht'
        case measure => simp [intOf]; omega
    · have HF := Lib.hid (findW_none (xs := xs) (c := c) (fun j hj => hall.out j hj (by omega)))
      go_wp2
      have hfb := hblk.put6 rfl (.string { data := #[] }) (.int .i64 0) (.bool false) (.bool false) (.bool false) (.int .i64 0)
      have hfB : Below w.heap.size w _ := below_put (below_put (below_put (below_put (below_put (below_put hbel (Nat.le_refl _) 0 (.string { data := #[] })) (Nat.le_refl _) 1 (.int .i64 0)) (Nat.le_refl _) 2 (.bool false)) (Nat.le_refl _) 3 (.bool false)) (Nat.le_refl _) 4 (.bool false)) (Nat.le_refl _) 5 (.int .i64 0)
      generalize World.setCell _ _ (Value.int .i64 0) = WW at hfb hfB ⊢
      have q0 := hfb.cell 0
      have q1 := hfb.cell 1
      have q2 := hfb.cell 2
      have q3 := hfb.cell 3
      have q4 := hfb.cell 4
      have q5 := hfb.cell 5
      simp only [List.getElem?_toArray, List.getElem?_cons_zero, List.getElem?_cons_succ] at q0 q1 q2 q3 q4 q5
      refine bodyPost_ret (v := foundV none) (by simp [results, Try.results57, go_sem, q0, q1, q2, q3, q4, q5, foundV, encW, zeroW]) rfl ⟨by rw [HF.out], hfB⟩




end Go.Proofs.Ytbiajkknpkeeoaa
