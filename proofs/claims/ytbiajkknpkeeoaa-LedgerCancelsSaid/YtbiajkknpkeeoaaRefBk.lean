/- Contracts of payrollref34.Form, payrollref35.Valid and payrollref35.Book. Conditions: strings' lengths fit the model. -/
import Derived.Test.YtbiajkknpkeeoaaEnt
namespace Go.Proofs.Ytbiajkknpkeeoaa
open Go.RowKit

set_option maxHeartbeats 2000000 in
theorem form34_any (x : LineT) (w : World) (hz : x.code.size ≤ maxLen) :
    Calls Try.prog 68 #[.agg #[.int .i64 x.kind, .string x.code, .int .i64 x.amount]] w fun e w' => e = .returned (.bool (formZ x)) ∧ Below w.heap.size w w' := by
  have hB := Blk.new w 26 #[.int .i64 x.kind, .string x.code, .int .i64 x.amount]
  by_cases h0 : x.amount = 0
  · have hn : (x.amount != 0) = false := by simp [h0]
    have HF : Hid (formZ x = false) := by simp [Hid, formZ, h0]
    clear h0
    go_enter Try.func68, Try.ntmps68
    go_wp2
    go_ret
    exact ⟨by rw [HF.out]; rfl, below_new _ _⟩
  · have hn : (x.amount != 0) = true := by simp [h0]
    have HF : Hid (formZ x = formB x) := by simp [Hid, formZ, h0]
    clear h0
    go_enter Try.func68, Try.ntmps68
    go_wp2_with fail
    refine (form32_any x _ hz).mono ?_
    rintro e w1 ⟨rfl, hb1⟩
    go_wp2
    go_ret
    exact ⟨by rw [HF.out]; rfl, bel_adv (below_new w _) hb1⟩

set_option maxHeartbeats 2000000 in
theorem valid35_any (p : PostT) (w : World) (hz : p.line.code.size ≤ maxLen) :
    Calls Try.prog 56 #[.agg #[.int .i64 p.run, .int .i64 p.employee, .int .i64 p.period, .int .i64 p.line.kind, .string p.line.code, .int .i64 p.line.amount]] w fun e w' => e = .returned (.bool (validP p)) ∧ Below w.heap.size w w' := by
  have HB : Hid (validP p = ((decide (1 ≤ p.run) && decide (p.run ≤ 256)) && ((decide (1 ≤ p.employee) && decide (p.employee ≤ 2147483647)) && ((decide (0 ≤ p.period) && decide (p.period ≤ 84005)) && formZ p.line)))) := rfl
  by_cases c0 : 1 ≤ p.run
  rotate_left
  · have HF : Hid (validP p = false) := by rw [Hid, HB.out]; simp [*]
    go_enter Try.func56, Try.ntmps56
    go_wp2
    go_ret
    exact ⟨by rw [HF.out]; rfl, below_new _ _⟩
  by_cases c1 : p.run ≤ 256
  rotate_left
  · have HF : Hid (validP p = false) := by rw [Hid, HB.out]; simp [*]
    go_enter Try.func56, Try.ntmps56
    go_wp2
    go_ret
    exact ⟨by rw [HF.out]; rfl, below_new _ _⟩
  by_cases c2 : 1 ≤ p.employee
  rotate_left
  · have HF : Hid (validP p = false) := by rw [Hid, HB.out]; simp [*]
    go_enter Try.func56, Try.ntmps56
    go_wp2
    go_ret
    exact ⟨by rw [HF.out]; rfl, below_new _ _⟩
  by_cases c3 : p.employee ≤ 2147483647
  rotate_left
  · have HF : Hid (validP p = false) := by rw [Hid, HB.out]; simp [*]
    go_enter Try.func56, Try.ntmps56
    go_wp2
    go_ret
    exact ⟨by rw [HF.out]; rfl, below_new _ _⟩
  by_cases c4 : 0 ≤ p.period
  rotate_left
  · have HF : Hid (validP p = false) := by rw [Hid, HB.out]; simp [*]
    go_enter Try.func56, Try.ntmps56
    go_wp2
    go_ret
    exact ⟨by rw [HF.out]; rfl, below_new _ _⟩
  by_cases c5 : p.period ≤ 84005
  rotate_left
  · have HF : Hid (validP p = false) := by rw [Hid, HB.out]; simp [*]
    go_enter Try.func56, Try.ntmps56
    go_wp2
    go_ret
    exact ⟨by rw [HF.out]; rfl, below_new _ _⟩
  skip
  have HF : Hid (validP p = formZ p.line) := by rw [Hid, HB.out]; simp [*]
  go_enter Try.func56, Try.ntmps56
  go_wp2_with fail
  refine (form34_any p.line _ hz).mono ?_
  rintro e w1 ⟨rfl, hb1⟩
  go_wp2
  go_ret
  exact ⟨by rw [HF.out]; rfl, bel_adv (below_new w _) hb1⟩

theorem bookB_len {xs : List PostT} (h : 65536 < xs.length) : bookB xs = false := by
  cases hh : bookB xs
  · rfl
  · have := ((bookB_iff xs).1 hh).1; omega
theorem bookB_bad {xs : List PostT} {k : Nat} (hk : k < xs.length) (h : validP xs[k] = false) : bookB xs = false := by
  cases hh : bookB xs
  · rfl
  · have := ((bookB_iff xs).1 hh).2.2 _ (List.getElem_mem hk)
    rw [this] at h; cases h
theorem bookB_dn {xs : List PostT} {k : Nat} (hk : k + 1 < xs.length) (h : xs[k + 1].run < xs[k].run) : bookB xs = false := by
  cases hh : bookB xs
  · rfl
  · have := ((bookB_iff xs).1 hh).2.1 k hk
    omega

set_option maxRecDepth 100000 in
set_option maxHeartbeats 4000000 in
theorem book35_any (A : Option Addr) (c : Nat) (xs : List PostT) (w : World) (h : SliceOf encP 6 w w.heap.size A xs) (hl : xs.length ≤ 9223372036854775806) (hz : ∀ x ∈ xs, x.line.code.size ≤ maxLen) :
    Calls Try.prog 37 #[.slice A xs.length c] w fun e w' => e = .returned (.bool (bookB xs)) ∧ Below w.heap.size w w' := by
  have HZ := Lib.hid hz; clear hz
  by_cases h6 : 65536 < xs.length
  · have HF := Lib.hid (bookB_len h6)
    go_enter Try.func37, Try.ntmps37
    go_wp2
    go_ret
    exact ⟨by rw [HF.out]; rfl, Below.refl _ _⟩
  go_enter Try.func37, Try.ntmps37
  go_wp2_with fail
  go_loopw [3] (fun i wr => ∃ k : Nat, k ≤ xs.length ∧ i = .int .i64 k ∧ Hid (∀ j, (hj : j < xs.length) → j < k → validP xs[j] = true) ∧ Hid (∀ j, (hj : j + 1 < xs.length) → j + 1 < k → xs[j].run ≤ xs[j + 1].run) ∧ Below w.heap.size w wr) (fun i _ => xs.length - (intOf i).toNat)
  case atStart => exact ⟨0, by omega, rfl, fun j _ hj => absurd hj (by omega), fun j _ hj => absurd hj (by omega), Below.refl _ _⟩
  case round =>
    obtain ⟨k, hk, rfl, hall, hasc, hbel⟩ := hrel
    by_cases hlt : k < xs.length
    · have hS := h.adv hbel
      obtain ⟨b, off, hA0, hb, hc⟩ := hS.at_ hlt
      have c0 := hc 0 _ rfl
      have c1 := hc 1 _ rfl
      have c2 := hc 2 _ rfl
      have c3 := hc 3 _ rfl
      have c4 := hc 4 _ rfl
      have c5 := hc 5 _ rfl
      simp only [Nat.add_zero] at c0
      have e0 := Bw.cell (w := wr) (a := ⟨b, off + k * 6, none⟩) (by exact hb) c0
      have e1 := Bw.cell (w := wr) (a := ⟨b, off + k * 6 + 1, none⟩) (by exact hb) c1
      have e2 := Bw.cell (w := wr) (a := ⟨b, off + k * 6 + 2, none⟩) (by exact hb) c2
      have e3 := Bw.cell (w := wr) (a := ⟨b, off + k * 6 + 3, none⟩) (by exact hb) c3
      have e4 := Bw.cell (w := wr) (a := ⟨b, off + k * 6 + 4, none⟩) (by exact hb) c4
      have e5 := Bw.cell (w := wr) (a := ⟨b, off + k * 6 + 5, none⟩) (by exact hb) c5
      have HV := Lib.hid (fun p : Bw wr => Bw.call p (valid35_any xs[k] p.w' (HZ.out _ (List.getElem_mem hlt))))
      have hi1 : (k : Int) < (xs.length : Int) := by omega
      subst hA0
      clear hc c0 c1 c2 c3 c4 c5
      by_cases hv : validP xs[k] = true
      rotate_left
      · have hv' : validP xs[k] = false := by simpa using hv
        have HF := Lib.hid (bookB_bad hlt hv')
        rw [hv'] at HV
        clear hv hv'
        go_wp2_with fail
        refine wp_region_below (by kernel_rfl) (by kernel_rfl) ?_
        repeat (first | go_big_quiet_step (with_reducible exact HV.out _) | quiet_step (with_reducible exact HV.out _))
        refine wpQuiet_nil ?_
        intro W2 hw'
        obtain ⟨⟨W9, hW2⟩, hw''⟩ := hw'
        subst hw''
        clear HV e0 e1 e2 e3 e4 e5
        go_wp2
        go_ret
        exact ⟨by rw [HF.out]; rfl, bel_adv hbel hW2⟩
      have HALL : Hid (∀ j, (hj : j < xs.length) → j < k + 1 → validP xs[j] = true) := fun j hj hjk => by
        rcases Nat.lt_or_ge j k with h1 | h1
        · exact hall.out j hj h1
        · obtain rfl : j = k := by omega
          exact hv
      rw [hv] at HV
      rcases Nat.eq_zero_or_pos k with hk0 | hk0
      · have hz0 : decide (0 < (k : Int)) = false := by simp; omega
        have hz1 : decide (0 < k) = false := by simp; omega
        have hz2 : ¬ 0 < k := by omega
        have hz3 : (k : Int) ≤ 0 := by omega
        have HASC : Hid (∀ j, (hj : j + 1 < xs.length) → j + 1 < k + 1 → xs[j].run ≤ xs[j + 1].run) := fun j hj hjk => absurd hjk (by omega)
        clear hv hk0
        go_wp2_with fail
        refine wp_region_below (by kernel_rfl) (by kernel_rfl) ?_
        repeat (first | go_big_quiet_step (with_reducible exact HV.out _) | quiet_step (with_reducible exact HV.out _))
        refine wpQuiet_nil ?_
        intro W2 hw'
        obtain ⟨⟨W9, hW2⟩, hw''⟩ := hw'
        subst hw''
        clear HV e0 e1 e2 e3 e4 e5 hz0 hz1 hz3
        go_wp2
        go_roundw
        case rel => exact ⟨k + 1, by omega, by go_num, HALL, HASC, bel_adv hbel hW2⟩
        case measure => simp [intOf]; omega
      obtain ⟨m, rfl⟩ : ∃ m, k = m + 1 := ⟨k - 1, by omega⟩
      obtain ⟨b', off', hA', hb', hc'⟩ := hS.at_ (show m < xs.length by omega)
      injection hA' with hA'
      injection hA' with h1 h2
      subst h1 h2
      have d0 := hc' 0 _ rfl
      simp only [Nat.add_zero] at d0
      have p0 := Bw.cell (w := wr) (a := ⟨b, off + m * 6, none⟩) (by exact hb) d0
      have hm0 : decide (0 < ((m + 1 : Nat) : Int)) = true := by rw [decide_eq_true_eq]; omega
      have hm1 : decide (0 < (m : Int) + 1) = true := by rw [decide_eq_true_eq]; omega
      have em : ((m + 1 : Nat) : Int) - 1 = (m : Int) := by omega
      have hi2 : (m : Int) < (xs.length : Int) := by omega
      clear hc' d0
      by_cases hr : xs[m + 1].run < xs[m].run
      · have hr' : decide (xs[m + 1].run < xs[m].run) = true := by simpa using hr
        have HF := Lib.hid (bookB_dn hlt hr)
        clear hr hv
        go_wp2_with fail
        refine wp_region_below (by kernel_rfl) (by kernel_rfl) ?_
        repeat (first | go_big_quiet_step (with_reducible exact HV.out _) | quiet_step (with_reducible exact HV.out _))
        refine wpQuiet_nil ?_
        intro W2 hw'
        obtain ⟨⟨W9, hW2⟩, hw''⟩ := hw'
        subst hw''
        clear HV e0 e1 e2 e3 e4 e5 p0
        go_wp2
        go_ret
        exact ⟨by rw [HF.out]; rfl, bel_adv hbel hW2⟩
      · have hr' : decide (xs[m + 1].run < xs[m].run) = false := by simpa using hr
        have HASC : Hid (∀ j, (hj : j + 1 < xs.length) → j + 1 < m + 1 + 1 → xs[j].run ≤ xs[j + 1].run) := fun j hj hjk => by
          rcases Nat.lt_or_ge (j + 1) (m + 1) with h1 | h1
          · exact hasc.out j hj h1
          · obtain rfl : j = m := by omega
            omega
        clear hr hv
        go_wp2_with fail
        refine wp_region_below (by kernel_rfl) (by kernel_rfl) ?_
        repeat (first | go_big_quiet_step (with_reducible exact HV.out _) | quiet_step (with_reducible exact HV.out _))
        refine wpQuiet_nil ?_
        intro W2 hw'
        obtain ⟨⟨W9, hW2⟩, hw''⟩ := hw'
        subst hw''
        clear HV e0 e1 e2 e3 e4 e5 p0
        go_wp2
        go_roundw
        case rel => exact ⟨m + 1 + 1, by omega, by go_num, HALL, HASC, bel_adv hbel hW2⟩
        case measure => simp [intOf]; omega
    · have HF : Hid (bookB xs = true) := (bookB_iff xs).2 ⟨by omega, fun i hi => hasc.out i hi (by omega), fun x hx => by
        obtain ⟨i, hi, rfl⟩ := List.getElem_of_mem hx
        exact hall.out i hi (by omega)⟩
      obtain rfl : k = xs.length := by omega
      go_wp2
      go_ret
      exact ⟨by rw [HF.out]; rfl, hbel⟩

end Go.Proofs.Ytbiajkknpkeeoaa
