/- Contracts of slices.Clone at entries, ledger.Trial and payrollref44.Trial. Conditions: the slice's length is at most a million. -/
import Derived.Test.YtbiajkknpkeeoaaMergeB2
namespace Go.Proofs.Ytbiajkknpkeeoaa
open Go.RowKit

set_option maxRecDepth 100000 in
set_option maxHeartbeats 1000000 in
theorem cloneB_any (A : Option Addr) (cap : Nat) (xs : List BookT) (w : World) (h : SliceOf encB 3 w w.heap.size A xs) (hl : xs.length ≤ 1000000) :
    Calls Try.prog 43 #[.slice A xs.length cap] w fun e w' => ∃ v, e = .returned v ∧ Own encB 3 42 w' w.heap.size v xs ∧ Below w.heap.size w w' := by
  rcases A with _ | a
  · have hx : xs = [] := by
      rcases xs with _ | ⟨y, ys⟩
      · rfl
      · obtain ⟨b, off, hA, _⟩ := h (by simp)
        cases hA
    subst hx
    have he : ∀ w : World, (binOp .eql 32 (.slice none 0 cap) (.slice none 0 0)).run Try.prog w = .ok (.bool true) w := fun _ => rfl
    go_enter Try.func43, Try.ntmps43
    go_wp2
    go_ret
    exact ⟨_, rfl, Own.nil_ _ _, Below.refl _ _⟩
  · have hlit := Own.lit encB_len w ([] : List BookT) #[] 42 rfl (by simp) (Nat.le_refl _)
    have hS := h.advA (.cells #[] 42)
    have he : ∀ w : World, (binOp .eql 32 (.slice (some a) xs.length cap) (.slice none 0 0)).run Try.prog w = .ok (.bool false) w := fun _ => rfl
    go_enter Try.func43, Try.ntmps43
    go_wp2_with (at_builtin; (refine wpList_append_list (ys := xs) _ _ 32 _ 24 _ infoB Try.underlying32 hlit hS encB_len (by omega) rfl encB_one (by simp; omega) (by omega) (by simp) (by rfl) (by rfl) (by rfl) (by rfl) (by rfl) ?_); intro v2 w6 hown6 hg6)
    go_ret
    exact ⟨v2, rfl, by simpa using hown6, fresh_below hg6⟩

theorem zero_step (xs : List BookT) (k : Nat) (h : k < xs.length) : ((xs.take k).map zeroRun ++ xs.drop k).set k (zeroRun xs[k]) = (xs.take (k + 1)).map zeroRun ++ xs.drop (k + 1) := by
  have e3 : ((xs.take k).map zeroRun).length = k := by simp; omega
  rw [List.set_append_right _ _ (by omega), e3, Nat.sub_self, List.drop_eq_getElem_cons h, List.set_cons_zero, List.take_succ_eq_append_getElem h, List.map_append, List.append_assoc]
  rfl
theorem zero_at (xs : List BookT) (k : Nat) (h : k < xs.length) : ((xs.take k).map zeroRun ++ xs.drop k)[k]? = some xs[k] := by
  rw [List.getElem?_append_right (by simp; omega)]
  simp [Nat.min_eq_left (Nat.le_of_lt h), h]

set_option maxRecDepth 100000 in
set_option maxHeartbeats 2000000 in
theorem trial_any (A : Option Addr) (cap : Nat) (xs : List BookT) (w : World) (h : SliceOf encB 3 w w.heap.size A xs) (hl : xs.length ≤ 1000000) :
    Calls Try.prog 19 #[.slice A xs.length cap] w (BPost (mRB (xs.map zeroRun)) (mErrB (xs.map zeroRun)) w) := by
  go_enter Try.func19, Try.ntmps19
  go_wp2_with fail
  refine (cloneB_any A cap xs _ h hl).mono ?_
  rintro e w1 ⟨v1, rfl, hown1, hb1⟩
  obtain ⟨A1, c1, rfl, hS1, hB1, hlc1, hcm1⟩ := hown1.form2 encB_len
  clear hS1 hB1
  go_wp2_with fail
  go_loopw [10] (fun i wr => ∃ k : Nat, k ≤ xs.length ∧ i = .int .i64 k ∧ Own encB 3 42 wr w.heap.size (.slice A1 xs.length c1) ((xs.take k).map zeroRun ++ xs.drop k) ∧ Below w.heap.size w wr) (fun i _ => xs.length - (intOf i).toNat)
  case atStart => exact ⟨0, by omega, rfl, by simpa using hown1, hb1⟩
  case round =>
    clear hown1 hb1
    obtain ⟨k, hk, rfl, hown, hbel⟩ := hrel
    by_cases hlt : k < xs.length
    · skip
      have hlc : ((xs.take k).map zeroRun ++ xs.drop k).length = xs.length := by simp; omega
      obtain ⟨g, cap9, cur9, hv9, hgb, hBk, _, _⟩ := hown.some_ (by omega)
      injection hv9 with hA9 hA10 hA8
      clear hA10
      subst hA9 hA8
      obtain ⟨A4, c4, hv4, hS4, _, _, _⟩ := hown.form2 encB_len
      injection hv4 with hA4 hA11 hA12
      clear hA11
      subst hA4 hA12
      obtain ⟨b8, off8, hA8', hb8, hc8⟩ := hS4 (by intro e; rw [e] at hlc; simp at hlc; omega)
      injection hA8' with hA8'
      injection hA8' with hA7 hA6
      subst hA7 hA6
      have hc := hc8 k _ (zero_at xs k hlt)
      have q0 := hc 0 _ rfl
      simp only [Nat.add_zero, Nat.zero_add] at q0
      have f0 := hBk.frozen (k * 3)
      have hset := hown.set1 encB_len hlc.symm (j := k) (by omega) (zeroRun xs[k]) 0 (.int .i64 0) (by omega) (by
        have hg := zero_at xs k hlt
        rw [List.getElem?_eq_getElem (by omega)] at hg
        injection hg with hg
        rw [hg]; rfl)
      rw [zero_step xs k hlt, Nat.add_zero] at hset
      have HSET := Lib.hid hset
      have HBEL := Lib.hid (bel_set hbel hgb (k * 3) (.int .i64 0))
      clear hset hown hbel hS4 hc8 hc
      go_wp2
      go_roundw
      case rel => exact ⟨k + 1, by omega, by go_num, HSET.out, HBEL.out⟩
      case measure => simp [intOf]; omega
    · skip
      obtain rfl : k = xs.length := by omega
      have hd0 : decide ((xs.length : Int) < (xs.length : Int)) = false := by simp
      have hd1 : decide (xs.length < xs.length) = false := by simp
      rw [List.take_length, List.drop_length, List.append_nil] at hown
      obtain ⟨A4, c4, hv4, hS4, _, _, _⟩ := hown.form2 encB_len
      injection hv4 with hA4 hA11 hc4
      clear hA11
      subst hA4 hc4
      go_wp2_with fail
      have hcon := mergeB_any A1 c1 (xs.map zeroRun) _ hS4 (by simp; omega)
      rw [List.length_map] at hcon
      refine hcon.mono ?_
      rintro e w5 ⟨A5, c5, rfl, hS5, hlc5, hcm5, hb5⟩
      go_wp2
      go_ret2
      exact ⟨A5, c5, rfl, hS5, hlc5, hcm5, bel_adv hbel hb5⟩

set_option maxRecDepth 100000 in
set_option maxHeartbeats 2000000 in
theorem trial44_any (A : Option Addr) (cap : Nat) (xs : List BookT) (w : World) (h : SliceOf encB 3 w w.heap.size A xs) (hl : xs.length ≤ 1000000) :
    Calls Try.prog 23 #[.slice A xs.length cap] w (BPost (mRB (xs.map zeroRun)) (mErrB (xs.map zeroRun)) w) := by
  have hlit := Own.lit encB_len w ([] : List BookT) #[] 42 rfl (by simp) (Nat.le_refl _)
  have hS := h.advA (.cells #[] 42)
  go_enter Try.func23, Try.ntmps23
  go_wp2_with (at_builtin; (refine wpList_append_list (ys := xs) _ _ 32 _ 24 _ infoB Try.underlying32 hlit hS encB_len (by omega) rfl encB_one (by simp; omega) (by omega) (by simp) (by rfl) (by rfl) (by rfl) (by rfl) (by rfl) ?_); intro v1 w1 hown1 hg1)
  rw [List.nil_append] at hown1
  have hb1 := fresh_below hg1
  obtain ⟨A1, c1, rfl, hS1, hB1, hlc1, hcm1⟩ := hown1.form2 encB_len
  clear hS1 hB1 hg1 hlit hS
  go_loopw [5] (fun i wr => ∃ k : Nat, k ≤ xs.length ∧ i = .int .i64 k ∧ Own encB 3 42 wr w.heap.size (.slice A1 xs.length c1) ((xs.take k).map zeroRun ++ xs.drop k) ∧ Below w.heap.size w wr) (fun i _ => xs.length - (intOf i).toNat)
  case atStart => exact ⟨0, by omega, rfl, by simpa using hown1, hb1⟩
  case round =>
    clear hown1 hb1
    obtain ⟨k, hk, rfl, hown, hbel⟩ := hrel
    by_cases hlt : k < xs.length
    · skip
      have hlc : ((xs.take k).map zeroRun ++ xs.drop k).length = xs.length := by simp; omega
      obtain ⟨g, cap9, cur9, hv9, hgb, hBk, _, _⟩ := hown.some_ (by omega)
      injection hv9 with hA9 hA10 hA8
      clear hA10
      subst hA9 hA8
      obtain ⟨A4, c4, hv4, hS4, _, _, _⟩ := hown.form2 encB_len
      injection hv4 with hA4 hA11 hA12
      clear hA11
      subst hA4 hA12
      obtain ⟨b8, off8, hA8', hb8, hc8⟩ := hS4 (by intro e; rw [e] at hlc; simp at hlc; omega)
      injection hA8' with hA8'
      injection hA8' with hA7 hA6
      subst hA7 hA6
      have hc := hc8 k _ (zero_at xs k hlt)
      have q0 := hc 0 _ rfl
      simp only [Nat.add_zero, Nat.zero_add] at q0
      have f0 := hBk.frozen (k * 3)
      have hset := hown.set1 encB_len hlc.symm (j := k) (by omega) (zeroRun xs[k]) 0 (.int .i64 0) (by omega) (by
        have hg := zero_at xs k hlt
        rw [List.getElem?_eq_getElem (by omega)] at hg
        injection hg with hg
        rw [hg]; rfl)
      rw [zero_step xs k hlt, Nat.add_zero] at hset
      have HSET := Lib.hid hset
      have HBEL := Lib.hid (bel_set hbel hgb (k * 3) (.int .i64 0))
      clear hset hown hbel hS4 hc8 hc
      go_wp2
      go_roundw
      case rel => exact ⟨k + 1, by omega, by go_num, HSET.out, HBEL.out⟩
      case measure => simp [intOf]; omega
    · skip
      obtain rfl : k = xs.length := by omega
      have hd0 : decide ((xs.length : Int) < (xs.length : Int)) = false := by simp
      have hd1 : decide (xs.length < xs.length) = false := by simp
      rw [List.take_length, List.drop_length, List.append_nil] at hown
      obtain ⟨A4, c4, hv4, hS4, _, _, _⟩ := hown.form2 encB_len
      injection hv4 with hA4 hA11 hc4
      clear hA11
      subst hA4 hc4
      go_wp2_with fail
      have hcon := mergeB44_any A1 c1 (xs.map zeroRun) _ hS4 (by simp; omega)
      rw [List.length_map] at hcon
      refine hcon.mono ?_
      rintro e w5 ⟨A5, c5, rfl, hS5, hlc5, hcm5, hb5⟩
      go_wp2
      go_ret2
      exact ⟨A5, c5, rfl, hS5, hlc5, hcm5, bel_adv hbel hb5⟩

end Go.Proofs.Ytbiajkknpkeeoaa
