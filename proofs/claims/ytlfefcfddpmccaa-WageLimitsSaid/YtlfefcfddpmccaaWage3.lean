/- Contracts of the functions Find, Same, short, ShortElements and Amount. Conditions: as stated in each theorem. -/
import Derived.Test.YtlfefcfddpmccaaWage
namespace Go.Proofs.Ytlfefcfddpmccaa
open Go.RowKit

def zeroW : WageT := ⟨⟨#[]⟩, 0, false, false, false, 0⟩
def hasC (c : ByteArray) (x : WageT) : Bool := x.code.toList == c.toList
def findW (xs : List WageT) (c : ByteArray) : Option WageT := xs.find? (hasC c)
def foundV (o : Option WageT) : Value := .tuple #[.agg (encW (o.getD zeroW)).toArray, .bool o.isSome]
theorem findW_some {xs : List WageT} {c : ByteArray} {k : Nat} (hk : k < xs.length) (h : ∀ j, (hj : j < xs.length) → j < k → hasC c xs[j] = false) (hh : hasC c xs[k] = true) : findW xs c = some xs[k] := by
  unfold findW
  rw [List.find?_eq_some_iff_getElem]
  refine ⟨hh, k, hk, rfl, fun j hj => ?_⟩
  rw [h j (by omega) hj]; rfl
theorem findW_none {xs : List WageT} {c : ByteArray} (h : ∀ j, (hj : j < xs.length) → hasC c xs[j] = false) : findW xs c = none := by
  unfold findW
  rw [List.find?_eq_none]
  intro x hx
  obtain ⟨j, hj, rfl⟩ := List.mem_iff_getElem.1 hx
  rw [h j hj]; simp

theorem sets6 {cs : Array Value} (hs : cs.size = 6) (a0 a1 a2 a3 a4 a5 : Value) : ((((((cs.setIfInBounds 0 a0).setIfInBounds 1 a1).setIfInBounds 2 a2).setIfInBounds 3 a3).setIfInBounds 4 a4).setIfInBounds 5 a5) = #[a0, a1, a2, a3, a4, a5] := by
  obtain ⟨l⟩ := cs
  match l, hs with
  | [_, _, _, _, _, _], _ => rfl
theorem Blk.put6 {w : World} {g : Nat} {t : TypeId} {cs : Array Value} (h : Blk w g t cs) (hs : cs.size = 6) (a0 a1 a2 a3 a4 a5 : Value) :
    Blk ((((((w.setCell ⟨g, 0, none⟩ a0).setCell ⟨g, 1, none⟩ a1).setCell ⟨g, 2, none⟩ a2).setCell ⟨g, 3, none⟩ a3).setCell ⟨g, 4, none⟩ a4).setCell ⟨g, 5, none⟩ a5) g t #[a0, a1, a2, a3, a4, a5] := by
  rw [← sets6 hs a0 a1 a2 a3 a4 a5]
  exact (((((h.set_ 0 a0).set_ 1 a1).set_ 2 a2).set_ 3 a3).set_ 4 a4).set_ 5 a5
theorem below_put {w W : World} {g : Nat} (h : Below w.heap.size w W) (hg : w.heap.size ≤ g) (i : Nat) (a : Value) : Below w.heap.size w (W.setCell ⟨g, i, none⟩ a) := h.setCell (p := ⟨g, i, none⟩) hg a

set_option maxHeartbeats 1000000 in
theorem find_any (A : Option Addr) (cap : Nat) (xs : List WageT) (c : ByteArray) (w : World) (h : SliceOf encW 6 w w.heap.size A xs) (hl : xs.length ≤ 9223372036854775806) :
    Calls Try.prog 17 #[.slice A xs.length cap, .string c] w fun e w' => e = .returned (foundV (findW xs c)) ∧ Below w.heap.size w w' := by
  go_enter Try.func17, Try.ntmps17
  go_wp2
  go_loopw [10] (fun i wr => ∃ k : Nat, k ≤ xs.length ∧ i = .int .i64 k ∧ Hid (∀ j, (hj : j < xs.length) → j < k → hasC c xs[j] = false) ∧ Below w.heap.size w wr ∧ Blk wr w.heap.size 31 (encW zeroW).toArray) (fun i _ => xs.length - (intOf i).toNat)
  case atStart => exact ⟨0, by omega, rfl, fun j _ hj => absurd hj (by omega), (Below.refl _ _).alloc (Nat.le_refl _) _, Blk.new _ _ _⟩
  case round =>
    obtain ⟨k, hk, rfl, hall, hbel, hblk⟩ := hrel
    have hz := hblk.lt
    have z0 := hblk.cell 0
    have z1 := hblk.cell 1
    have z2 := hblk.cell 2
    have z3 := hblk.cell 3
    have z4 := hblk.cell 4
    have z5 := hblk.cell 5
    have f0 := hblk.frozen 0
    have f1 := hblk.frozen 1
    have f2 := hblk.frozen 2
    have f3 := hblk.frozen 3
    have f4 := hblk.frozen 4
    have f5 := hblk.frozen 5
    simp only [encW, zeroW, List.getElem?_toArray, List.getElem?_cons_zero, List.getElem?_cons_succ] at z0 z1 z2 z3 z4 z5
    by_cases hlt : k < xs.length
    · obtain ⟨b, off, rfl, hb, hc⟩ := (h.below hbel).at_ hlt
      have c0 := hc 0 _ rfl
      have c1 := hc 1 _ rfl
      have c2 := hc 2 _ rfl
      have c3 := hc 3 _ rfl
      have c4 := hc 4 _ rfl
      have c5 := hc 5 _ rfl
      simp only [Nat.add_zero] at c0
      clear hc
      have hbb : b < wr.heap.size := by omega
      by_cases ht : (xs[k].code.toList == c.toList) = true
      · have HF := Lib.hid (findW_some hlt hall.out ht)
        go_wp2
        have hfb := (hblk.put6 rfl (.string xs[k].code) (.int .i64 xs[k].kind) (.bool xs[k].taxable) (.bool xs[k].insured) (.bool xs[k].attachable) (.int .i64 xs[k].account)).alloc (Obj.cells #[Value.string xs[k].code, Value.int IntKind.i64 xs[k].kind, Value.bool xs[k].taxable, Value.bool xs[k].insured, Value.bool xs[k].attachable, Value.int IntKind.i64 xs[k].account] 31)
        have hfB : Below w.heap.size w _ := (below_put (below_put (below_put (below_put (below_put (below_put hbel (Nat.le_refl _) 0 (.string xs[k].code)) (Nat.le_refl _) 1 (.int .i64 xs[k].kind)) (Nat.le_refl _) 2 (.bool xs[k].taxable)) (Nat.le_refl _) 3 (.bool xs[k].insured)) (Nat.le_refl _) 4 (.bool xs[k].attachable)) (Nat.le_refl _) 5 (.int .i64 xs[k].account)).alloc (by simp; omega) (Obj.cells #[Value.string xs[k].code, Value.int IntKind.i64 xs[k].kind, Value.bool xs[k].taxable, Value.bool xs[k].insured, Value.bool xs[k].attachable, Value.int IntKind.i64 xs[k].account] 31)
        generalize World.alloc _ _ = WW at hfb hfB ⊢
        have q0 := hfb.cell 0
        have q1 := hfb.cell 1
        have q2 := hfb.cell 2
        have q3 := hfb.cell 3
        have q4 := hfb.cell 4
        have q5 := hfb.cell 5
        simp only [List.getElem?_toArray, List.getElem?_cons_zero, List.getElem?_cons_succ] at q0 q1 q2 q3 q4 q5
        refine bodyPost_ret (v := foundV (some xs[k])) (by simp [results, Try.results17, go_sem, q0, q1, q2, q3, q4, q5, foundV, encW]) rfl ⟨by rw [HF.out], hfB⟩
      · have ht' : (xs[k].code.toList == c.toList) = false := by simpa using ht
        clear ht
        go_wp2
        go_roundw
        case rel =>
          refine ⟨k + 1, by omega, by go_num, fun j hj hjk => ?_, hbel.alloc (by omega) _, hblk.alloc _⟩
          rcases Nat.lt_or_ge j k with h1 | h1
          · exact hall.out j hj h1
          · obtain rfl : j = k := by omega
            exact ht'
        case measure => simp [intOf]; omega
    · have HF := Lib.hid (findW_none (xs := xs) (c := c) (fun j hj => hall.out j hj (by omega)))
      go_wp2
      have hfb := hblk.put6 rfl (.string { data := #[] }) (.int .i64 0) (.bool false) (.bool false) (.bool false) (.int .i64 0)
      have hfB : Below w.heap.size w _ := below_put (below_put (below_put (below_put (below_put (below_put hbel (Nat.le_refl _) 0 (.string { data := #[] })) (Nat.le_refl _) 1 (.int .i64 0)) (Nat.le_refl _) 2 (.bool false)) (Nat.le_refl _) 3 (.bool false)) (Nat.le_refl _) 4 (.bool false)) (Nat.le_refl _) 5 (.int .i64 0)
      generalize World.setCell _ _ (Value.int .i64 0) = WW at hfb hfB ⊢
      have q0 := hfb.cell 0
      have q1 := hfb.cell 1
      have q2 := hfb.cell 2
      have q3 := hfb.cell 3
      have q4 := hfb.cell 4
      have q5 := hfb.cell 5
      simp only [List.getElem?_toArray, List.getElem?_cons_zero, List.getElem?_cons_succ] at q0 q1 q2 q3 q4 q5
      refine bodyPost_ret (v := foundV none) (by simp [results, Try.results17, go_sem, q0, q1, q2, q3, q4, q5, foundV, encW, zeroW]) rfl ⟨by rw [HF.out], hfB⟩

set_option maxHeartbeats 1000000 in
theorem find26_any (A : Option Addr) (cap : Nat) (xs : List WageT) (c : ByteArray) (w : World) (h : SliceOf encW 6 w w.heap.size A xs) (hl : xs.length ≤ 9223372036854775806) :
    Calls Try.prog 18 #[.slice A xs.length cap, .string c] w fun e w' => e = .returned (foundV (findW xs c)) ∧ Below w.heap.size w w' := by
  go_enter Try.func18, Try.ntmps18
  go_wp2
  go_loopw [6] (fun i wr => ∃ k : Nat, k ≤ xs.length ∧ i = .int .i64 k ∧ Hid (∀ j, (hj : j < xs.length) → j < k → hasC c xs[j] = false) ∧ Below w.heap.size w wr ∧ Blk wr w.heap.size 31 (encW zeroW).toArray) (fun i _ => xs.length - (intOf i).toNat)
  case atStart => exact ⟨0, by omega, rfl, fun j _ hj => absurd hj (by omega), (Below.refl _ _).alloc (Nat.le_refl _) _, Blk.new _ _ _⟩
  case round =>
    obtain ⟨k, hk, rfl, hall, hbel, hblk⟩ := hrel
    have hz := hblk.lt
    have z0 := hblk.cell 0
    have z1 := hblk.cell 1
    have z2 := hblk.cell 2
    have z3 := hblk.cell 3
    have z4 := hblk.cell 4
    have z5 := hblk.cell 5
    have f0 := hblk.frozen 0
    have f1 := hblk.frozen 1
    have f2 := hblk.frozen 2
    have f3 := hblk.frozen 3
    have f4 := hblk.frozen 4
    have f5 := hblk.frozen 5
    simp only [encW, zeroW, List.getElem?_toArray, List.getElem?_cons_zero, List.getElem?_cons_succ] at z0 z1 z2 z3 z4 z5
    by_cases hlt : k < xs.length
    · obtain ⟨b, off, rfl, hb, hc⟩ := (h.below hbel).at_ hlt
      have c0 := hc 0 _ rfl
      have c1 := hc 1 _ rfl
      have c2 := hc 2 _ rfl
      have c3 := hc 3 _ rfl
      have c4 := hc 4 _ rfl
      have c5 := hc 5 _ rfl
      simp only [Nat.add_zero] at c0
      clear hc
      have hbb : b < wr.heap.size := by omega
      by_cases ht : (xs[k].code.toList == c.toList) = true
      · have HF := Lib.hid (findW_some hlt hall.out ht)
        go_wp2
        have hfb := hblk.put6 rfl (.string xs[k].code) (.int .i64 xs[k].kind) (.bool xs[k].taxable) (.bool xs[k].insured) (.bool xs[k].attachable) (.int .i64 xs[k].account)
        have hfB : Below w.heap.size w _ := below_put (below_put (below_put (below_put (below_put (below_put hbel (Nat.le_refl _) 0 (.string xs[k].code)) (Nat.le_refl _) 1 (.int .i64 xs[k].kind)) (Nat.le_refl _) 2 (.bool xs[k].taxable)) (Nat.le_refl _) 3 (.bool xs[k].insured)) (Nat.le_refl _) 4 (.bool xs[k].attachable)) (Nat.le_refl _) 5 (.int .i64 xs[k].account)
        generalize World.setCell _ _ (Value.int .i64 xs[k].account) = WW at hfb hfB ⊢
        have q0 := hfb.cell 0
        have q1 := hfb.cell 1
        have q2 := hfb.cell 2
        have q3 := hfb.cell 3
        have q4 := hfb.cell 4
        have q5 := hfb.cell 5
        simp only [List.getElem?_toArray, List.getElem?_cons_zero, List.getElem?_cons_succ] at q0 q1 q2 q3 q4 q5
        refine bodyPost_ret (v := foundV (some xs[k])) (by simp [results, Try.results18, go_sem, q0, q1, q2, q3, q4, q5, foundV, encW]) rfl ⟨by rw [HF.out], hfB⟩
      · have ht' : (xs[k].code.toList == c.toList) = false := by simpa using ht
        clear ht
        go_wp2
        go_roundw
        case rel =>
          refine ⟨k + 1, by omega, by go_num, fun j hj hjk => ?_, hbel, hblk⟩
          rcases Nat.lt_or_ge j k with h1 | h1
          · exact hall.out j hj h1
          · obtain rfl : j = k := by omega
            exact ht'
        case measure => simp [intOf]; omega
    · have HF := Lib.hid (findW_none (xs := xs) (c := c) (fun j hj => hall.out j hj (by omega)))
      go_wp2
      have hfb := hblk.put6 rfl (.string { data := #[] }) (.int .i64 0) (.bool false) (.bool false) (.bool false) (.int .i64 0)
      have hfB : Below w.heap.size w _ := below_put (below_put (below_put (below_put (below_put (below_put hbel (Nat.le_refl _) 0 (.string { data := #[] })) (Nat.le_refl _) 1 (.int .i64 0)) (Nat.le_refl _) 2 (.bool false)) (Nat.le_refl _) 3 (.bool false)) (Nat.le_refl _) 4 (.bool false)) (Nat.le_refl _) 5 (.int .i64 0)
      generalize World.setCell _ _ (Value.int .i64 0) = WW at hfb hfB ⊢
      have q0 := hfb.cell 0
      have q1 := hfb.cell 1
      have q2 := hfb.cell 2
      have q3 := hfb.cell 3
      have q4 := hfb.cell 4
      have q5 := hfb.cell 5
      simp only [List.getElem?_toArray, List.getElem?_cons_zero, List.getElem?_cons_succ] at q0 q1 q2 q3 q4 q5
      refine bodyPost_ret (v := foundV none) (by simp [results, Try.results18, go_sem, q0, q1, q2, q3, q4, q5, foundV, encW, zeroW]) rfl ⟨by rw [HF.out], hfB⟩


def shortB (l : List WageT) : Bool := decide (l.length ≤ 70) && l.all fun x => decide (x.code.size ≤ 60)
def shortEB (l : List Elem) : Bool := decide (l.length ≤ 140) && l.all fun x => decide (x.code.size ≤ 60)

set_option maxHeartbeats 400000 in
theorem short_any (A : Option Addr) (cap : Nat) (xs : List WageT) (w : World) (B : Nat) (h : SliceOf encW 6 w B A xs) (hl : xs.length ≤ 9223372036854775807) :
    Calls Try.prog 10 #[.slice A xs.length cap] w fun e w' => e = .returned (.bool (shortB xs)) ∧ w = w' := by
  by_cases hlen : 70 < xs.length
  · have HV : Hid (shortB xs = false) := by simp [Hid, shortB]; intro; omega
    go_enter Try.func10, Try.ntmps10
    go_wp2
    go_ret
    exact ⟨by rw [HV.out]; rfl, rfl⟩
  · have hlen' : xs.length ≤ 70 := by omega
    clear hlen
    go_enter Try.func10, Try.ntmps10
    go_wp2
    go_loop [3] (fun i => ∃ k : Nat, k ≤ xs.length ∧ i = .int .i64 k ∧ Hid (∀ j, (hj : j < xs.length) → j < k → xs[j].code.size ≤ 60)) (fun i => xs.length - (intOf i).toNat)
    case atStart => exact ⟨0, by omega, rfl, fun j _ hj => absurd hj (by omega)⟩
    case round =>
      obtain ⟨k, hk, rfl, hall⟩ := hrel
      by_cases hlt : k < xs.length
      · obtain ⟨b, off, rfl, hb, hc⟩ := h.at_ hlt
        have c0 := hc 0 _ rfl
        simp only [Nat.add_zero] at c0
        clear hc
        by_cases ht : 60 < xs[k].code.size
        · have HV : Hid (shortB xs = false) := by
            simp only [Hid, shortB, Bool.and_eq_false_iff, List.all_eq_false]
            exact .inr ⟨xs[k], List.getElem_mem _, by simp; omega⟩
          go_wp2
          go_ret
          exact ⟨by rw [HV.out]; rfl, rfl⟩
        · have ht' : xs[k].code.size ≤ 60 := by omega
          clear ht
          go_wp2
          go_round
          case rel =>
            refine ⟨k + 1, by omega, by go_num, fun j hj hjk => ?_⟩
            rcases Nat.lt_or_ge j k with h1 | h1
            · exact hall.out j hj h1
            · obtain rfl : j = k := by omega
              exact ht'
          case measure => simp [intOf]; omega
      · have HV : Hid (shortB xs = true) := by
          simp only [Hid, shortB, Bool.and_eq_true, List.all_eq_true, decide_eq_true_eq]
          refine ⟨hlen', fun x hx => ?_⟩
          obtain ⟨j, hj, rfl⟩ := List.mem_iff_getElem.1 hx
          exact hall.out j hj (by omega)
        go_wp2
        go_ret
        exact ⟨by rw [HV.out]; rfl, rfl⟩

set_option maxHeartbeats 400000 in
theorem shortE_any (A : Option Addr) (cap : Nat) (xs : List Elem) (w : World) (B : Nat) (h : SliceOf encE 2 w B A xs) (hl : xs.length ≤ 9223372036854775807) :
    Calls Try.prog 19 #[.slice A xs.length cap] w fun e w' => e = .returned (.bool (shortEB xs)) ∧ w = w' := by
  by_cases hlen : 140 < xs.length
  · have HV : Hid (shortEB xs = false) := by simp [Hid, shortEB]; intro; omega
    go_enter Try.func19, Try.ntmps19
    go_wp2
    go_ret
    exact ⟨by rw [HV.out]; rfl, rfl⟩
  · have hlen' : xs.length ≤ 140 := by omega
    clear hlen
    go_enter Try.func19, Try.ntmps19
    go_wp2
    go_loop [3] (fun i => ∃ k : Nat, k ≤ xs.length ∧ i = .int .i64 k ∧ Hid (∀ j, (hj : j < xs.length) → j < k → xs[j].code.size ≤ 60)) (fun i => xs.length - (intOf i).toNat)
    case atStart => exact ⟨0, by omega, rfl, fun j _ hj => absurd hj (by omega)⟩
    case round =>
      obtain ⟨k, hk, rfl, hall⟩ := hrel
      by_cases hlt : k < xs.length
      · obtain ⟨b, off, rfl, hb, hc⟩ := h.at_ hlt
        have c0 := hc 0 _ rfl
        simp only [Nat.add_zero] at c0
        clear hc
        by_cases ht : 60 < xs[k].code.size
        · have HV : Hid (shortEB xs = false) := by
            simp only [Hid, shortEB, Bool.and_eq_false_iff, List.all_eq_false]
            exact .inr ⟨xs[k], List.getElem_mem _, by simp; omega⟩
          go_wp2
          go_ret
          exact ⟨by rw [HV.out]; rfl, rfl⟩
        · have ht' : xs[k].code.size ≤ 60 := by omega
          clear ht
          go_wp2
          go_round
          case rel =>
            refine ⟨k + 1, by omega, by go_num, fun j hj hjk => ?_⟩
            rcases Nat.lt_or_ge j k with h1 | h1
            · exact hall.out j hj h1
            · obtain rfl : j = k := by omega
              exact ht'
          case measure => simp [intOf]; omega
      · have HV : Hid (shortEB xs = true) := by
          simp only [Hid, shortEB, Bool.and_eq_true, List.all_eq_true, decide_eq_true_eq]
          refine ⟨hlen', fun x hx => ?_⟩
          obtain ⟨j, hj, rfl⟩ := List.mem_iff_getElem.1 hx
          exact hall.out j hj (by omega)
        go_wp2
        go_ret
        exact ⟨by rw [HV.out]; rfl, rfl⟩


set_option maxHeartbeats 400000 in
theorem amount26_any (n : Int) (w : World) :
    Calls Try.prog 39 #[.int .i64 n] w fun e w' => e = .returned (.bool (amtB n)) ∧ w = w' := by
  by_cases h1 : -1000000000 ≤ n <;> by_cases h2 : n ≤ 1000000000
  all_goals
    have hb : amtB n = (decide (-1000000000 ≤ n) && decide (n ≤ 1000000000)) := by simp [amtB]
    have HB := Lib.hid hb; clear hb
    go_enter Try.func39, Try.ntmps39
    go_wp2
    go_ret
    exact ⟨by rw [HB.out]; simp [h1, h2], rfl⟩

def sameB (a b : List Elem) : Bool := decide (a = b)

def eqE (a b : ByteArray) (x y : Int) : Bool := (a.toList == b.toList) && (x == y)
theorem neqE (a b : ByteArray) (x y : Int) (w : World) : Sem.run Try.prog (binOp .neq 44 (.agg #[.string a, .int .i64 x]) (.agg #[.string b, .int .i64 y])) w = .ok (.bool (!eqE a b x y)) w := by
  have u3 := Try.underlying3
  have u9 := Try.underlying9
  have a3 := Try.isAgg3
  have z3 := Try.sizeOf3
  have a9 := Try.isAgg9
  have z9 := Try.sizeOf9
  have hS : Try.prog.underlying 44 = some (.struct (Try.prog.fieldsOf 44)) := by kernel_rfl
  have hp : Try.prog.stoodInHeld 44 = false := by kernel_rfl
  rw [run_neq_struct, show (10000 : Nat) = 9999 + 1 from rfl, run_equalIn_agg w 9999 44 _ _ hS hp]
  simp only [Program.fieldsOf, Try.underlying44]
  go_simp
  by_cases h1 : a.toList = b.toList <;> by_cases h2 : x = y <;> simp [h1, h2, eqE]
theorem guardE : Try.prog.eqGuardType Try.prog.depth 44 = false := by kernel_rfl
theorem eqE_iff (x y : Elem) : eqE x.code y.code x.amount y.amount = true ↔ x = y := by
  obtain ⟨a, p⟩ := x
  obtain ⟨b, q⟩ := y
  simp only [eqE, Bool.and_eq_true, beq_iff_eq, Elem.mk.injEq, ByteArray.toList_eq]
  refine ⟨fun ⟨h1, h2⟩ => ⟨?_, h2⟩, fun ⟨h1, h2⟩ => ⟨by rw [h1], h2⟩⟩
  obtain ⟨⟨l⟩⟩ := a
  obtain ⟨⟨m⟩⟩ := b
  simp at h1
  rw [h1]

set_option maxHeartbeats 1000000 in
theorem same_any (A B : Option Addr) (c d : Nat) (xs ys : List Elem) (w : World) (N : Nat) (hx : SliceOf encE 2 w N A xs) (hy : SliceOf encE 2 w N B ys) (hl : xs.length ≤ 9223372036854775807) (hl2 : ys.length ≤ 9223372036854775807) :
    Calls Try.prog 26 #[.slice A xs.length c, .slice B ys.length d] w fun e w' => e = .returned (.bool (sameB xs ys)) ∧ ∃ q, w' = w.drewN q := by
  by_cases hlen : xs.length = ys.length
  · have hlen' : ((xs.length : Int) != (ys.length : Int)) = false := by simp [hlen]
    have H1 := Lib.hid hlen
    have hle : xs.length ≤ ys.length := by omega
    clear hlen
    go_enter Try.func26, Try.ntmps26
    go_wp2
    go_loopw [5] (fun i wr => ∃ k q : Nat, k ≤ xs.length ∧ i = .int .i64 k ∧ Hid (∀ j, j < k → xs[j]? = ys[j]?) ∧ Hid (wr = w.drewN q)) (fun i _ => xs.length - (intOf i).toNat)
    case atStart => exact ⟨0, 0, by omega, rfl, fun j hj => absurd hj (by omega), rfl⟩
    case round =>
      obtain ⟨k, q, hk, rfl, hall, hw⟩ := hrel
      have hx' : SliceOf encE 2 wr N A xs := by rw [hw.out]; exact hx
      have hy' : SliceOf encE 2 wr N B ys := by rw [hw.out]; exact hy
      by_cases hlt : k < xs.length
      · have hlt2 : k < ys.length := by omega
        obtain ⟨b1, off1, rfl, hb1, hc1⟩ := hx'.at_ hlt
        obtain ⟨b2, off2, rfl, hb2, hc2⟩ := hy'.at_ hlt2
        have c0 := hc1 0 _ rfl
        have c1 := hc1 1 _ rfl
        have d0 := hc2 0 _ rfl
        have d1 := hc2 1 _ rfl
        simp only [Nat.add_zero] at c0 d0
        clear hc1 hc2
        have hn := fun (w : World) => neqE xs[k].code ys[k].code xs[k].amount ys[k].amount w
        have hgd := guardE
        by_cases ht : eqE xs[k].code ys[k].code xs[k].amount ys[k].amount = true
        · have HT := Lib.hid ht
          go_wp2
          go_quiet (fail)
          go_wp2
          go_roundw
          case rel =>
            refine ⟨k + 1, q + nq, by omega, by go_num, fun j hj => ?_, ?_⟩
            · rcases Nat.lt_or_ge j k with h1 | h1
              · exact hall.out j h1
              · obtain rfl : j = k := by omega
                rw [List.getElem?_eq_getElem hlt, List.getElem?_eq_getElem hlt2, (eqE_iff _ _).1 HT.out]
            · show wr.drewN nq = w.drewN (q + nq)
              rw [hw.out, World.drewN_drewN]
          case measure => simp [intOf]; omega
        · have ht' : eqE xs[k].code ys[k].code xs[k].amount ys[k].amount = false := by simpa using ht
          have HT : Hid (¬ xs = ys) := fun e => ht ((eqE_iff _ _).2 (by simp [e]))
          clear ht
          go_wp2
          go_quiet (fail)
          go_wp2
          go_ret
          exact ⟨by rw [sameB, decide_eq_false HT.out]; rfl, q + nq, by rw [hw.out, World.drewN_drewN]⟩
      · go_wp2
        go_ret
        have : xs = ys := by
          apply List.ext_getElem?
          intro j
          rcases Nat.lt_or_ge j k with h1 | h1
          · exact hall.out j h1
          · have := H1.out
            rw [List.getElem?_eq_none (by omega), List.getElem?_eq_none (by omega)]
        exact ⟨by rw [sameB, decide_eq_true this]; rfl, q, hw.out⟩
  · have hlen' : ((xs.length : Int) != (ys.length : Int)) = true := by simp; omega
    have H1 : Hid (¬ xs = ys) := fun e => hlen (by rw [e])
    clear hlen
    go_enter Try.func26, Try.ntmps26
    go_wp2
    go_ret
    exact ⟨by rw [sameB, decide_eq_false H1.out]; rfl, 0, rfl⟩

end Go.Proofs.Ytlfefcfddpmccaa
