/- Contracts of book.Valid, ascending, valid, Book and of payrollref34.Form, payrollref35.Valid and Book, for whatever lists. Conditions: strings' lengths fit the model. -/
import Derived.Test.YtbiajkknpkeeoaaEnt
namespace Go.Proofs.Ytbiajkknpkeeoaa
open Go.RowKit

set_option maxHeartbeats 2000000 in
theorem bvalid_any (p : PostT) (w : World) (hz : p.line.code.size ≤ maxLen) :
    Calls Try.prog 65 #[.agg #[.int .i64 p.run, .int .i64 p.employee, .int .i64 p.period, .int .i64 p.line.kind, .string p.line.code, .int .i64 p.line.amount]] w fun e w' => e = .returned (.bool (validP p)) ∧ Below w.heap.size w w' := by
  have HB : Hid (validP p = ((decide (1 ≤ p.run) && decide (p.run ≤ 256)) && ((decide (1 ≤ p.employee) && decide (p.employee ≤ 2147483647)) && ((decide (0 ≤ p.period) && decide (p.period ≤ 84005)) && formZ p.line)))) := rfl
  by_cases c0 : 1 ≤ p.run
  rotate_left
  · have HF : Hid (validP p = false) := by rw [Hid, HB.out]; simp [*]
    go_enter Try.func65, Try.ntmps65
    go_wp2
    go_ret
    exact ⟨by rw [HF.out]; rfl, below_new _ _⟩
  by_cases c1 : p.run ≤ 256
  rotate_left
  · have HF : Hid (validP p = false) := by rw [Hid, HB.out]; simp [*]
    go_enter Try.func65, Try.ntmps65
    go_wp2
    go_ret
    exact ⟨by rw [HF.out]; rfl, below_new _ _⟩
  by_cases c2 : 1 ≤ p.employee
  rotate_left
  · have HF : Hid (validP p = false) := by rw [Hid, HB.out]; simp [*]
    go_enter Try.func65, Try.ntmps65
    go_wp2
    go_ret
    exact ⟨by rw [HF.out]; rfl, below_new _ _⟩
  by_cases c3 : p.employee ≤ 2147483647
  rotate_left
  · have HF : Hid (validP p = false) := by rw [Hid, HB.out]; simp [*]
    go_enter Try.func65, Try.ntmps65
    go_wp2
    go_ret
    exact ⟨by rw [HF.out]; rfl, below_new _ _⟩
  by_cases c4 : 0 ≤ p.period
  rotate_left
  · have HF : Hid (validP p = false) := by rw [Hid, HB.out]; simp [*]
    go_enter Try.func65, Try.ntmps65
    go_wp2
    go_ret
    exact ⟨by rw [HF.out]; rfl, below_new _ _⟩
  by_cases c5 : p.period ≤ 84005
  rotate_left
  · have HF : Hid (validP p = false) := by rw [Hid, HB.out]; simp [*]
    go_enter Try.func65, Try.ntmps65
    go_wp2
    go_ret
    exact ⟨by rw [HF.out]; rfl, below_new _ _⟩
  skip
  have HF : Hid (validP p = formZ p.line) := by rw [Hid, HB.out]; simp [*]
  go_enter Try.func65, Try.ntmps65
  go_wp2_with fail
  refine (formp_any p.line _ hz).mono ?_
  rintro e w1 ⟨rfl, hb1⟩
  go_wp2
  go_ret
  exact ⟨by rw [HF.out]; rfl, bel_adv (below_new w _) hb1⟩

theorem ascB_no {xs : List PostT} {k : Nat} (h : k + 1 < xs.length) (hn : xs[k + 1].run < xs[k].run) : ascB xs = false := by
  cases hh : ascB xs
  · rfl
  · have := (ascB_iff xs).1 hh k h
    omega
set_option maxHeartbeats 1000000 in
theorem ascending_any (A : Option Addr) (c : Nat) (xs : List PostT) (w : World) (h : SliceOf encP 6 w w.heap.size A xs) (hl : xs.length ≤ 9223372036854775806) :
    Calls Try.prog 51 #[.slice A xs.length c] w fun e w' => e = .returned (.bool (ascB xs)) ∧ ∃ q, w' = w.drewN q := by
  go_enter Try.func51, Try.ntmps51
  go_wp2
  go_loopw [3] (fun i wr => ∃ k q : Nat, i = .int .i64 ((k : Int) + 1) ∧ k ≤ xs.length ∧ Hid (∀ i, (hi : i + 1 < xs.length) → i < k → xs[i].run ≤ xs[i + 1].run) ∧ Hid (wr = w.drewN q)) (fun i _ => xs.length + 1 - (intOf i).toNat)
  case atStart => exact ⟨0, 0, rfl, by omega, fun i _ hi => absurd hi (by omega), rfl⟩
  case round =>
    obtain ⟨k, q, rfl, hkl, hall, hw⟩ := hrel
    have hx' : SliceOf encP 6 wr w.heap.size A xs := by rw [hw.out]; exact h
    by_cases hlt : k + 1 < xs.length
    · obtain ⟨b1, off1, rfl, hb1, hc1⟩ := hx'.at_ hlt
      obtain ⟨b2, off2, hA2, hb2, hc2⟩ := hx'.at_ (show k < xs.length by omega)
      injection hA2 with hA2
      injection hA2 with hA3 hA4
      subst hA3 hA4
      have c0 := hc1 0 _ rfl
      have d0 := hc2 0 _ rfl
      simp only [Nat.add_zero] at c0 d0
      clear hc1 hc2
      have hi1 : (k : Int) + 1 < (xs.length : Int) := by omega
      have hi2 : (k : Int) < (xs.length : Int) := by omega
      by_cases hr : xs[k + 1].run < xs[k].run
      · have hn : decide (xs[k + 1].run < xs[k].run) = true := by simpa using hr
        have HN := Lib.hid (ascB_no hlt hr)
        clear hr
        go_wp2
        go_quiet (fail)
        go_wp2
        go_ret
        exact ⟨by rw [HN.out]; rfl, q + nq, by rw [hw.out, World.drewN_drewN]⟩
      · have hn : decide (xs[k + 1].run < xs[k].run) = false := by simpa using hr
        have hle : xs[k].run ≤ xs[k + 1].run := by omega
        clear hr
        go_wp2
        go_quiet (fail)
        go_wp2
        go_roundw
        case rel =>
          refine ⟨k + 1, q + nq, by go_num, by omega, fun i hi hik => ?_, ?_⟩
          · rcases Nat.lt_or_ge i k with h3 | h3
            · exact hall.out i hi h3
            · obtain rfl : i = k := by omega
              exact hle
          · show wr.drewN nq = w.drewN (q + nq)
            rw [hw.out, World.drewN_drewN]
        case measure => simp [intOf]; omega
    · have HN : Hid (ascB xs = true) := by
        exact (ascB_iff xs).2 (fun i hi => hall.out i hi (by omega))
      go_wp2
      go_ret
      exact ⟨by rw [HN.out]; rfl, q, hw.out⟩

set_option maxHeartbeats 1000000 in
theorem bvalids_any (A : Option Addr) (c : Nat) (xs : List PostT) (w : World) (h : SliceOf encP 6 w w.heap.size A xs) (hl : xs.length ≤ 9223372036854775806) (hz : ∀ x ∈ xs, x.line.code.size ≤ maxLen) :
    Calls Try.prog 52 #[.slice A xs.length c] w fun e w' => e = .returned (.bool (xs.all validP)) ∧ Below w.heap.size w w' := by
  have HZ := Lib.hid hz
  clear hz
  go_enter Try.func52, Try.ntmps52
  go_wp2
  go_loopw [7] (fun i wr => ∃ k : Nat, i = .int .i64 k ∧ k ≤ xs.length ∧ Hid (∀ j, (hj : j < xs.length) → j < k → validP xs[j] = true) ∧ Below w.heap.size w wr) (fun i _ => xs.length - (intOf i).toNat)
  case atStart => exact ⟨0, rfl, by omega, fun j _ hj => absurd hj (by omega), Below.refl _ _⟩
  case round =>
    obtain ⟨k, rfl, hkl, hall, hbel⟩ := hrel
    by_cases hlt : k < xs.length
    · obtain ⟨b, off, rfl, hb, hc⟩ := (h.below hbel).at_ hlt
      have c0 := hc 0 _ rfl
      have c1 := hc 1 _ rfl
      have c2 := hc 2 _ rfl
      have c3 := hc 3 _ rfl
      have c4 := hc 4 _ rfl
      have c5 := hc 5 _ rfl
      simp only [Nat.add_zero] at c0
      clear hc
      have hzk := HZ.out _ (List.getElem_mem hlt)
      go_wp2_with fail
      refine (bvalid_any xs[k] _ hzk).mono ?_
      rintro e w1 ⟨rfl, hb1⟩
      have hbel1 := bel_adv (bel_alloc hbel (.cells #[.int .i64 xs[k].run, .int .i64 xs[k].employee, .int .i64 xs[k].period, .int .i64 xs[k].line.kind, .string xs[k].line.code, .int .i64 xs[k].line.amount] 28)) hb1
      clear hb1 hbel
      rcases hv : validP xs[k] with _ | _
      · have HN : Hid (xs.all validP = false) := by
          rw [Hid, List.all_eq_false]; exact ⟨xs[k], List.getElem_mem _, by simp [hv]⟩
        clear hv
        go_wp2
        go_ret
        exact ⟨by rw [HN.out]; rfl, hbel1⟩
      · have HN : Hid (∀ j, (hj : j < xs.length) → j < k + 1 → validP xs[j] = true) := by
          intro j hj hjk
          rcases Nat.lt_or_ge j k with h3 | h3
          · exact hall.out j hj h3
          · obtain rfl : j = k := by omega
            exact hv
        clear hv
        go_wp2
        go_roundw
        case rel => exact ⟨k + 1, by go_num, by omega, HN, hbel1⟩
        case measure => simp [intOf]; omega
    · have HN : Hid (xs.all validP = true) := by
        rw [Hid, List.all_eq_true]
        intro x hx
        obtain ⟨j, hj, rfl⟩ := List.mem_iff_getElem.1 hx
        exact hall.out j hj (by omega)
      go_wp2
      go_ret
      exact ⟨by rw [HN.out]; rfl, hbel⟩

set_option maxHeartbeats 1000000 in
theorem book_any (A : Option Addr) (c : Nat) (xs : List PostT) (w : World) (h : SliceOf encP 6 w w.heap.size A xs) (hl : xs.length ≤ 9223372036854775806) (hz : ∀ x ∈ xs, x.line.code.size ≤ maxLen) :
    Calls Try.prog 34 #[.slice A xs.length c] w fun e w' => e = .returned (.bool (bookB xs)) ∧ Below w.heap.size w w' := by
  have HZ := Lib.hid hz
  clear hz
  have HB : Hid (bookB xs = (decide (xs.length ≤ 65536) && (ascB xs && xs.all validP))) := rfl
  by_cases hlen : xs.length ≤ 65536
  rotate_left
  · have HF : Hid (bookB xs = false) := by rw [Hid, HB.out]; simp [hlen]
    go_enter Try.func34, Try.ntmps34
    go_wp2
    go_ret
    exact ⟨by rw [HF.out]; rfl, Below.refl _ _⟩
  go_enter Try.func34, Try.ntmps34
  go_wp2_with fail
  refine (ascending_any A c xs _ h hl).mono ?_
  rintro e w1 ⟨rfl, q1, rfl⟩
  rcases ha : ascB xs with _ | _
  · have HF : Hid (bookB xs = false) := by rw [Hid, HB.out, ha]; simp
    clear ha
    go_wp2
    go_ret
    exact ⟨by rw [HF.out]; rfl, below_drewN (Below.refl _ _) q1⟩
  · have HF : Hid (bookB xs = xs.all validP) := by rw [Hid, HB.out, ha]; simp [hlen]
    clear ha
    go_wp2_with fail
    refine (bvalids_any A c xs _ (h.advD q1) hl HZ.out).mono ?_
    rintro e w2 ⟨rfl, hb2⟩
    generalize xs.all validP = o at HF
    go_wp2
    go_ret
    exact ⟨by rw [HF.out]; rfl, bel_adv (below_drewN (Below.refl _ _) q1) hb2⟩

end Go.Proofs.Ytbiajkknpkeeoaa
