/- Contracts of ledger.Paid, payrollref44.Paid and paygen's Payments. Conditions: the slice's length fits an int. -/
import Derived.Test.YtbiajkknpkeeoaaPayW2
namespace Go.Proofs.Ytbiajkknpkeeoaa
open Go.RowKit

set_option maxRecDepth 100000 in
set_option maxHeartbeats 4000000 in
theorem paid_any (run : Int) (A : Option Addr) (cap : Nat) (xs : List PayT) (w : World) (h : SliceOf encM 2 w w.heap.size A xs) (hl : xs.length ≤ 9223372036854775806) :
    Calls Try.prog 29 #[.int .i64 run, .slice A xs.length cap] w (BPost (paidR run xs) (paidErr run xs) w) := by
  by_cases hr0 : run < 0
  · have HP : Hid (paidErr run xs = 2) := by rw [Hid, paidErr, if_pos (.inl hr0)]
    go_enter Try.func29, Try.ntmps29
    go_wp2
    go_ret2
    exact BPost.fail (paidR_no HP.out (by omega)) HP.out (Below.refl _ _)
  by_cases hr1 : 256 < run
  · have HP : Hid (paidErr run xs = 2) := by rw [Hid, paidErr, if_pos (.inr hr1)]
    go_enter Try.func29, Try.ntmps29
    go_wp2
    go_ret2
    exact BPost.fail (paidR_no HP.out (by omega)) HP.out (Below.refl _ _)
  have HC : Hid (paidErr run xs = if ctlErr xs ≠ 0 then ctlErr xs else if 1000000000000 < sumA xs then 4 else 0) := by rw [Hid, paidErr, if_neg (by omega)]
  go_enter Try.func29, Try.ntmps29
  go_wp2_with fail
  refine (ctl_any A cap xs _ h hl).mono ?_
  rintro e w1 ⟨rfl, hb1⟩
  by_cases hc : ctlErr xs = 0
  rotate_left
  · have hc' : (ctlErr xs != 0) = true := by simpa using hc
    have HP : Hid (paidErr run xs = ctlErr xs) := by rw [Hid, HC.out, if_pos hc]
    have HNZ := Lib.hid hc
    rw [ctlV_n rfl hc]
    clear hc
    go_wp2
    go_ret2
    exact BPost.fail (paidR_no HP.out HNZ.out) HP.out (bel_alloc hb1 _)
  have HPS := Lib.hid (sumA_pos xs (ctl_all hc))
  have HC2 : Hid (paidErr run xs = if 1000000000000 < sumA xs then 4 else 0) := by rw [Hid, HC.out, if_neg (by omega)]
  rw [ctlV_0 hc]
  have hps := HPS.out
  have HSA : Hid (∀ s, sumA xs = s → paidErr run xs = 0 → xs.length ≠ 0 → paidR run xs = [⟨run, 100, s⟩, ⟨run, 108, -s⟩]) := fun s e h0 hne => by rw [paidR, if_pos h0, if_neg hne, e]
  generalize hsa : sumA xs = sa at *
  have HSA2 := HSA.out sa rfl
  have HS2 := Lib.hid HSA2
  clear HSA2 HSA HC hc hsa
  by_cases hbig : 1000000000000 < sa
  · have HP : Hid (paidErr run xs = 4) := by rw [Hid, HC2.out, if_pos hbig]
    go_wp2
    go_ret2
    exact BPost.fail (paidR_no HP.out (by omega)) HP.out (bel_alloc hb1 _)
  have HP : Hid (paidErr run xs = 0) := by rw [Hid, HC2.out, if_neg hbig]
  by_cases hz : xs.length = 0
  · have hz' : ((xs.length : Int) == 0) = true := by simp [hz]
    have HR : Hid (paidR run xs = []) := by rw [Hid, paidR, if_pos HP.out, if_pos hz]
    have HZ := Lib.hid hz
    clear hz
    go_wp2
    go_ret2
    exact BPost.fail HR.out HP.out (bel_alloc hb1 _)
  · have hz' : ((xs.length : Int) == 0) = false := by simp; simpa using hz
    have HR := Lib.hid (HS2.out HP.out hz)
    clear hz
    go_wp2
    have hN := SliceOf.new encB_len (w1.alloc (.cells #[.int .i64 xs.length, .int .i64 sa, .int .i64 (sumN xs)] 80)) [(⟨run, 100, sa⟩ : BookT), ⟨run, 108, -sa⟩] #[.int .i64 run, .int .i64 100, .int .i64 sa, .int .i64 run, .int .i64 108, .int .i64 (-sa)] 42 rfl
    have hN2 := hN.more (B' := ((w1.alloc (.cells #[.int .i64 xs.length, .int .i64 sa, .int .i64 (sumN xs)] 80)).alloc (.cells #[.int .i64 run, .int .i64 100, .int .i64 sa, .int .i64 run, .int .i64 108, .int .i64 (-sa)] 42)).heap.size) (by simp)
    go_ret2
    rw [HR.out, HP.out]
    refine ⟨_, 2, rfl, ?_, by simp, by unfold maxLen; omega, bel_alloc (bel_alloc hb1 _) _⟩
    simp only [World.size_alloc] at hN2 ⊢
    exact hN2

set_option maxRecDepth 100000 in
set_option maxHeartbeats 4000000 in
theorem paid44_any (run : Int) (A : Option Addr) (cap : Nat) (xs : List PayT) (w : World) (h : SliceOf encM 2 w w.heap.size A xs) (hl : xs.length ≤ 9223372036854775806) :
    Calls Try.prog 30 #[.int .i64 run, .slice A xs.length cap] w (BPost (paidR run xs) (paidErr run xs) w) := by
  by_cases hr0 : run < 0
  · have HP : Hid (paidErr run xs = 2) := by rw [Hid, paidErr, if_pos (.inl hr0)]
    go_enter Try.func30, Try.ntmps30
    go_wp2
    go_ret2
    exact BPost.fail (paidR_no HP.out (by omega)) HP.out (Below.refl _ _)
  by_cases hr1 : 256 < run
  · have HP : Hid (paidErr run xs = 2) := by rw [Hid, paidErr, if_pos (.inr hr1)]
    go_enter Try.func30, Try.ntmps30
    go_wp2
    go_ret2
    exact BPost.fail (paidR_no HP.out (by omega)) HP.out (Below.refl _ _)
  have HC : Hid (paidErr run xs = if ctlErr xs ≠ 0 then ctlErr xs else if 1000000000000 < sumA xs then 4 else 0) := by rw [Hid, paidErr, if_neg (by omega)]
  go_enter Try.func30, Try.ntmps30
  go_wp2_with fail
  refine (ctl39_any A cap xs _ h hl).mono ?_
  rintro e w1 ⟨rfl, hb1⟩
  by_cases hc : ctlErr xs = 0
  rotate_left
  · have hc' : (ctlErr xs != 0) = true := by simpa using hc
    have HP : Hid (paidErr run xs = ctlErr xs) := by rw [Hid, HC.out, if_pos hc]
    have HNZ := Lib.hid hc
    rw [ctlV_n rfl hc]
    clear hc
    go_wp2
    go_ret2
    exact BPost.fail (paidR_no HP.out HNZ.out) HP.out (bel_alloc hb1 _)
  have HPS := Lib.hid (sumA_pos xs (ctl_all hc))
  have HC2 : Hid (paidErr run xs = if 1000000000000 < sumA xs then 4 else 0) := by rw [Hid, HC.out, if_neg (by omega)]
  rw [ctlV_0 hc]
  have hps := HPS.out
  have HSA : Hid (∀ s, sumA xs = s → paidErr run xs = 0 → xs.length ≠ 0 → paidR run xs = [⟨run, 100, s⟩, ⟨run, 108, -s⟩]) := fun s e h0 hne => by rw [paidR, if_pos h0, if_neg hne, e]
  generalize hsa : sumA xs = sa at *
  have HSA2 := HSA.out sa rfl
  have HS2 := Lib.hid HSA2
  clear HSA2 HSA HC hc hsa
  by_cases hbig : 1000000000000 < sa
  · have HP : Hid (paidErr run xs = 4) := by rw [Hid, HC2.out, if_pos hbig]
    go_wp2
    go_ret2
    exact BPost.fail (paidR_no HP.out (by omega)) HP.out (bel_alloc hb1 _)
  have HP : Hid (paidErr run xs = 0) := by rw [Hid, HC2.out, if_neg hbig]
  by_cases hz : xs.length = 0
  · have hz' : ((xs.length : Int) == 0) = true := by simp [hz]
    have HR : Hid (paidR run xs = []) := by rw [Hid, paidR, if_pos HP.out, if_pos hz]
    have HZ := Lib.hid hz
    clear hz
    go_wp2
    go_ret2
    exact BPost.fail HR.out HP.out (bel_alloc hb1 _)
  · have hz' : ((xs.length : Int) == 0) = false := by simp; simpa using hz
    have HR := Lib.hid (HS2.out HP.out hz)
    clear hz
    go_wp2
    have hN := SliceOf.new encB_len (w1.alloc (.cells #[.int .i64 xs.length, .int .i64 sa, .int .i64 (sumN xs)] 80)) [(⟨run, 100, sa⟩ : BookT), ⟨run, 108, -sa⟩] #[.int .i64 run, .int .i64 100, .int .i64 sa, .int .i64 run, .int .i64 108, .int .i64 (-sa)] 42 rfl
    have hN2 := hN.more (B' := ((w1.alloc (.cells #[.int .i64 xs.length, .int .i64 sa, .int .i64 (sumN xs)] 80)).alloc (.cells #[.int .i64 run, .int .i64 100, .int .i64 sa, .int .i64 run, .int .i64 108, .int .i64 (-sa)] 42)).heap.size) (by simp)
    go_ret2
    rw [HR.out, HP.out]
    refine ⟨_, 2, rfl, ?_, by simp, by unfold maxLen; omega, bel_alloc (bel_alloc hb1 _) _⟩
    simp only [World.size_alloc] at hN2 ⊢
    exact hN2


set_option maxRecDepth 100000 in
set_option maxHeartbeats 2000000 in
theorem payments_any (b M n : Nat) (w : World) (hM : M ≤ 500000) (hn : n ≤ 1000) (hd : DeckIn w b M) :
    Calls Try.prog 27 #[.pointer (some ⟨b, 0, none⟩), .int .i64 n] w fun e w' => ∃ v xs, e = .returned v ∧ xs.length ≤ n ∧ Own encM 2 78 w' w.heap.size v xs ∧ DeckIn w' b (M + 1 + 4 * n) ∧ w.grownBy w' (some b) := by
  have hlt := hd.lt
  go_enter Try.func27, Try.ntmps27
  go_wp2_with fail
  refine (next_any b M _ _ (by omega) (by omega) (by omega) hd).mono ?_
  rintro e w0 ⟨r0, rfl, ha0, hb0, hd0, hg0⟩
  obtain ⟨k0, rfl⟩ := Int.eq_ofNat_of_zero_le ha0
  go_wp2_with fail
  go_loopw [5, 6] (fun v i wr => ∃ (k : Nat) (xs : List PayT), k ≤ n ∧ i = .int .i64 k ∧ xs.length + k ≤ n ∧ Own encM 2 78 wr w.heap.size v xs ∧ DeckIn wr b (M + 1 + 4 * (n - k)) ∧ w.grownBy wr (some b)) (fun _ i _ => (intOf i).toNat)
  case atStart => exact ⟨k0, [], by omega, rfl, by simp; omega, Own.nil_ _ _, hd0.mono (by omega), hg0⟩
  case round =>
    obtain ⟨k, xs, hk, rfl, hlen, hown, hdk, hg⟩ := hrel
    by_cases hk0 : 0 < k
    · go_wp2_with fail
      refine (pick_new b (M + 1 + 4 * (n - k)) _ [1, 2, 3, 7, 2147483647] _ _ _ rfl rfl (by omega) hdk (by simp) (by simp)).mono ?_
      rintro e w2 ⟨r2, rfl, hm2, hd2, hg2⟩
      go_wp2_with fail
      refine (small_any b (M + 1 + 4 * (n - k) + 1) _ (by omega) hd2).mono ?_
      rintro e w3 ⟨r3, rfl, ha3, hb3, hd3, hg3⟩
      go_wp2_with fail
      refine (pick_new b (M + 1 + 4 * (n - k) + 1 + 2) w3 [1, 100, 1 + r3, 1000000000000] _ _ _ rfl rfl (by omega) hd3 (by simp) (by simp)).mono ?_
      rintro e w5 ⟨r5, rfl, hm5, hd5, hg5⟩
      have hG := only_trans (only_trans hg2 hg3) hg5
      have hown1 := hown.kept hG (by intro g e; injection e; omega)
      have hs1 : w.heap.size ≤ w5.heap.size := Nat.le_trans hg.size hG.size
      have hr7 := fun q hq => (hown1.block_lt (g := q) hq).1
      have hgg := only_trans hg hG
      clear hdk hown hg hg2 hg3 hg5 hd2 hd3 hm2 hm5 hG
      go_wp2_with (at_builtin; (refine wpList_append_one _ _ 53 (⟨r2, r5⟩ : PayT) _ 16 _ infoM Try.underlying53 hown1 encM_len (by omega) rfl (encM_one _) (by omega) (by omega) hs1 (by rfl) (by rfl) (by rfl) (by rfl) (by simp) (by rfl) ?_); intro v2 w6 hown6 hg6)
      go_roundw
      case rel =>
        have hfin : ∃ (k' : Nat) (xs' : List PayT), k' ≤ n ∧ Value.int .i64 ((k : Int) - 1) = .int .i64 k' ∧ xs'.length + k' ≤ n ∧ Own encM 2 78 w6 w.heap.size v2 xs' ∧ DeckIn w6 b (M + 1 + 4 * (n - k')) ∧ w.grownBy w6 (some b) := by
          exact ⟨k - 1, xs ++ [⟨r2, r5⟩], by omega, by go_num, by simp; omega, hown6, (hd5.grown hg6 (fun q e => by have := hr7 q e; omega)).mono (by omega), only_then hgg hg6 (fun q e => .inl (hr7 q e))⟩
        first | exact hfin | ((repeat apply Exists.intro); exact ⟨hfin, rfl⟩)
      case measure => simp [intOf]; omega
    · go_wp2_with fail
      go_ret
      exact ⟨_, xs, rfl, by omega, hown, hdk.mono (by omega), hg⟩

end Go.Proofs.Ytbiajkknpkeeoaa
