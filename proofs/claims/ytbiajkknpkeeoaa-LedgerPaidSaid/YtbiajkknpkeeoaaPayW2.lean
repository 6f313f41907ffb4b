/- Contracts of payrollref39.Of, ledger.Paid, payrollref44.Paid and paygen's Payments. Conditions: the slice's length fits an int. -/
import Derived.Test.YtbiajkknpkeeoaaPayW
import Derived.Test.YtbiajkknpkeeoaaGenP
namespace Go.Proofs.Ytbiajkknpkeeoaa
open Go.RowKit

set_option maxRecDepth 100000 in
set_option maxHeartbeats 4000000 in
theorem ctl39_any (A : Option Addr) (cap : Nat) (xs : List PayT) (w : World) (h : SliceOf encM 2 w w.heap.size A xs) (hl : xs.length ≤ 9223372036854775806) :
    Calls Try.prog 47 #[.slice A xs.length cap] w (CtlOk xs w) := by
  go_enter Try.func47, Try.ntmps47
  go_upto_region 1 with fail
  have hB0 := Blk.new w 80 #[.int .i64 0, .int .i64 0, .int .i64 0]
  have hb0 : Below w.heap.size w (w.alloc (.cells #[.int .i64 0, .int .i64 0, .int .i64 0] 80)) := below_new _ _
  generalize w.alloc (.cells #[.int .i64 0, .int .i64 0, .int .i64 0] 80) = w0 at hB0 hb0 ⊢
  have hs0 := hB0.lt
  by_cases h4 : 4096 < xs.length
  · have HV := Lib.hid (ctlV_n (ctl_3 h4) (by omega))
    obtain ⟨r0, r1, r2⟩ := hB0.cells3
    obtain ⟨q0, q1, q2⟩ := hB0.frz3
    go_wp2
    have hfb := hB0.put3 rfl (.int .i64 0) (.int .i64 0) (.int .i64 0)
    have hfB := bel_put3 hb0 (Nat.le_refl _) (.int .i64 0) (.int .i64 0) (.int .i64 0)
    generalize World.setCell _ _ _ = WW at hfb hfB ⊢
    obtain ⟨z0, z1, z2⟩ := hfb.cells3
    refine bodyPost_ret (v := ctlV xs) ?_ rfl ⟨rfl, hfB⟩
    rw [HV.out]
    simp [results, Try.results47, go_sem, z0, z1, z2]
  go_wp2_with fail
  have hat0 : CtlAt xs w w0.heap.size 0 (w0.alloc (.cells #[.int .i64 xs.length, .int .i64 0, .int .i64 0] 80)) :=
    ⟨fun j _ hj => absurd hj (by omega), by simp [sumA, sumN], by simp [sumA, sumN], hB0.alloc _, Blk.new _ _ _, bel_alloc hb0 _, hs0⟩
  go_loopw [5] (fun i wr => ∃ k : Nat, k ≤ xs.length ∧ i = .int .i64 k ∧ CtlAt xs w w0.heap.size k wr) (fun i _ => xs.length - (intOf i).toNat)
  case atStart => exact ⟨0, by omega, rfl, hat0⟩
  case round =>
    clear hat0 hB0 hb0
    obtain ⟨k, hk, rfl, hat⟩ := hrel
    by_cases hlt : k < xs.length
    · obtain ⟨b, off, hA0, hb, hc⟩ := (h.adv hat.bel).at_ hlt
      subst hA0
      have c0 := hc 0 _ rfl
      have c1 := hc 1 _ rfl
      simp only [Nat.add_zero] at c0
      clear hc
      have hi1 : (k : Int) < (xs.length : Int) := by omega
      go_wp2_with fail
      refine (valid39_any xs[k] _).mono ?_
      rintro e w4 ⟨rfl, hb4⟩
      have hat4 := hat.adv hb4
      clear hat c0 c1 hb hb4
      obtain ⟨l1, l2⟩ := hat4.lo
      obtain ⟨l3, l4⟩ := hat4.hi
      have hsr := hat4.res.lt
      have hsa := hat4.acc.lt
      by_cases hx : okM xs[k] = true
      · obtain ⟨⟨a1, a2⟩, a3, a4⟩ := (okM_iff _).1 hx
        have HX := Lib.hid hx
        rw [hx]
        obtain ⟨r0, r1, r2⟩ := hat4.acc.cells3
        obtain ⟨q0, q1, q2⟩ := hat4.acc.frz3
        obtain ⟨b', off', hA', hb', hc'⟩ := (h.adv hat4.bel).at_ hlt
        injection hA' with hA'
        injection hA' with h1 h2
        subst h1 h2
        have d0 := hc' 0 _ rfl
        have d1 := hc' 1 _ rfl
        simp only [Nat.add_zero] at d0
        have hne : w.heap.size ≠ w0.heap.size := by omega
        have HN := Lib.hid (fun W h1 h2 h3 => hat4.next (W := W) hlt hx h1 h2 h3)
        have hR5 := hat4.res.far (p := ⟨w0.heap.size, 1, none⟩) hne (.int .i64 (sumA (xs.take k) + xs[k].amount))
        have hA5 : Blk (w4.setCell ⟨w0.heap.size, 1, none⟩ (.int .i64 (sumA (xs.take k) + xs[k].amount))) w0.heap.size 80 #[.int .i64 xs.length, .int .i64 (sumA (xs.take k) + xs[k].amount), .int .i64 (sumN (xs.take k))] := hat4.acc.set_ 1 (.int .i64 (sumA (xs.take k) + xs[k].amount))
        have hB5 := bel_set hat4.bel (Nat.le_of_lt hat4.lt) 1 (.int .i64 (sumA (xs.take k) + xs[k].amount))
        have hlt0 := hat4.lt
        have HP := Lib.hid (And.intro hR5 (And.intro hA5 hB5))
        generalize sumA (xs.take k) = sa at *
        generalize sumN (xs.take k) = sn at *
        clear hat4 hc' hR5 hA5 hB5 hx
        go_wp2_with fail
        go_still_tail 9, (by kernel_rfl)
        change wpList _ _ _ _ _ w4.drew
        have f1 : w4.drew.frozen? ⟨w0.heap.size, 1, none⟩ = false := q1
        have g1 : w4.drew.cell? ⟨w0.heap.size, 1, none⟩ = some (.int .i64 sa) := r1
        go_upto_region 10 with fail
        change Code.wp _ _ _ _ (w4.drew.setCell ⟨w0.heap.size, 1, none⟩ (.int .i64 (sa + xs[k].amount)))
        have hW5 : ∃ W5 : World, W5 = w4.drew.setCell ⟨w0.heap.size, 1, none⟩ (.int .i64 (sa + xs[k].amount)) := ⟨_, rfl⟩
        obtain ⟨W5, hW5⟩ := hW5
        rw [← hW5]
        obtain ⟨hR5, hA5, hB5⟩ := HP.out
        have hR6 : Blk W5 w.heap.size 80 #[.int .i64 0, .int .i64 0, .int .i64 0] := by rw [hW5]; exact hR5
        have hA6 : Blk W5 w0.heap.size 80 #[.int .i64 xs.length, .int .i64 (sa + xs[k].amount), .int .i64 sn] := by rw [hW5]; exact hA5
        have hB6 : Below w.heap.size w W5 := by rw [hW5]; exact ⟨hB5.os, hB5.tape, hB5.output, hB5.size, hB5.block⟩
        clear hW5 HP hR5 hA5 hB5 r0 r1 r2 q0 q1 q2 f1 g1 d0 d1 hb'
        obtain ⟨r0, r1, r2⟩ := hA6.cells3
        obtain ⟨q0, q1, q2⟩ := hA6.frz3
        obtain ⟨b', off', hA', hb', hc'⟩ := (h.adv hB6).at_ hlt
        injection hA' with hA'
        injection hA' with h1 h2
        subst h1 h2
        have d0 := hc' 0 _ rfl
        have d1 := hc' 1 _ rfl
        simp only [Nat.add_zero] at d0
        have HR := Lib.hid (hR6.far (p := ⟨w0.heap.size, 2, none⟩) hne (.int .i64 (sn + xs[k].number)))
        have HA : Hid (Blk (W5.setCell ⟨w0.heap.size, 2, none⟩ (.int .i64 (sn + xs[k].number))) w0.heap.size 80 #[.int .i64 xs.length, .int .i64 (sa + xs[k].amount), .int .i64 (sn + xs[k].number)]) := hA6.set_ 2 (.int .i64 (sn + xs[k].number))
        have HBL := Lib.hid (bel_set hB6 (Nat.le_of_lt hlt0) 2 (.int .i64 (sn + xs[k].number)))
        clear hR6 hA6 hB6 hc'
        go_still_tail 9, (by kernel_rfl)
        change wpList _ _ _ _ _ W5.drew
        have f2 : W5.drew.frozen? ⟨w0.heap.size, 2, none⟩ = false := q2
        have g2 : W5.drew.cell? ⟨w0.heap.size, 2, none⟩ = some (.int .i64 sn) := r2
        go_wp2
        go_roundw
        case rel => exact ⟨k + 1, by omega, by go_num, HN.out _ HR.out HA.out ⟨HBL.out.os, HBL.out.tape, HBL.out.output, HBL.out.size, HBL.out.block⟩⟩
        case measure => simp [intOf]; omega
      · have hx' : okM xs[k] = false := by simpa using hx
        have HV := Lib.hid (ctlV_n (ctl_2 h4 hlt hx') (by omega))
        rw [hx']
        obtain ⟨r0, r1, r2⟩ := hat4.res.cells3
        obtain ⟨q0, q1, q2⟩ := hat4.res.frz3
        have hfb := hat4.res.put3 rfl (.int .i64 0) (.int .i64 0) (.int .i64 0)
        have hfB := bel_put3 hat4.bel (Nat.le_refl _) (.int .i64 0) (.int .i64 0) (.int .i64 0)
        have HFB := Lib.hid hfb
        have HFW := Lib.hid hfB
        clear hfb hfB hat4 hx l1 l2 l3 l4 hx'
        go_wp2
        have hfb := HFB.out
        have hfB := HFW.out
        generalize World.setCell _ _ _ = WW at hfb hfB ⊢
        obtain ⟨z0, z1, z2⟩ := hfb.cells3
        refine bodyPost_ret (v := ctlV xs) ?_ rfl ⟨rfl, hfB⟩
        rw [HV.out]
        simp [results, Try.results47, go_sem, z0, z1, z2]
    · obtain rfl : k = xs.length := by omega
      have hd0 : decide ((xs.length : Int) < (xs.length : Int)) = false := by simp
      have hd1 : decide (xs.length < xs.length) = false := by simp
      have HV := Lib.hid (ctlV_0 (ctl_0 h4 (fun j hj _ => hat.all j hj hj)))
      have hac := hat.acc
      rw [List.take_length] at hac
      obtain ⟨p0, p1, p2⟩ := hac.cells3
      obtain ⟨r0, r1, r2⟩ := hat.res.cells3
      obtain ⟨q0, q1, q2⟩ := hat.res.frz3
      have hsr := hat.res.lt
      have hsa := hat.acc.lt
      have hfb := hat.res.put3 rfl (.int .i64 xs.length) (.int .i64 (sumA xs)) (.int .i64 (sumN xs))
      have hfB := bel_put3 hat.bel (Nat.le_refl _) (.int .i64 xs.length) (.int .i64 (sumA xs)) (.int .i64 (sumN xs))
      have HFB := Lib.hid hfb
      have HFW := Lib.hid hfB
      clear hfb hfB hac hat
      go_wp2
      have hfb := HFB.out
      have hfB := HFW.out
      generalize World.setCell _ _ _ = WW at hfb hfB ⊢
      obtain ⟨z0, z1, z2⟩ := hfb.cells3
      refine bodyPost_ret (v := ctlV xs) ?_ rfl ⟨rfl, hfB⟩
      rw [HV.out]
      simp [results, Try.results47, go_sem, z0, z1, z2]

end Go.Proofs.Ytbiajkknpkeeoaa
