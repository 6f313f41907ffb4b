/- Contracts of control.Of, payrollref39.Valid and payrollref39.Of. Conditions: the slice's length fits an int. -/
import Derived.Test.YtbiajkknpkeeoaaPay
namespace Go.Proofs.Ytbiajkknpkeeoaa
open Go.RowKit

theorem Blk.put3 {w : World} {g : Nat} {t : TypeId} {cs : Array Value} (h : Blk w g t cs) (hs : cs.size = 3) (a0 a1 a2 : Value) :
    Blk (((w.setCell ⟨g, 0, none⟩ a0).setCell ⟨g, 1, none⟩ a1).setCell ⟨g, 2, none⟩ a2) g t #[a0, a1, a2] := by
  have e : (((cs.setIfInBounds 0 a0).setIfInBounds 1 a1).setIfInBounds 2 a2) = #[a0, a1, a2] := by
    obtain ⟨l⟩ := cs
    match l, hs with
    | [_, _, _], _ => rfl
  rw [← e]
  exact ((h.set_ 0 a0).set_ 1 a1).set_ 2 a2
theorem Blk.cells3 {w : World} {g : Nat} {t : TypeId} {a b c : Value} (h : Blk w g t #[a, b, c]) : w.cell? ⟨g, 0, none⟩ = some a ∧ w.cell? ⟨g, 1, none⟩ = some b ∧ w.cell? ⟨g, 2, none⟩ = some c := ⟨h.cell 0, h.cell 1, h.cell 2⟩
theorem Blk.frz3 {w : World} {g : Nat} {t : TypeId} {cs : Array Value} (h : Blk w g t cs) : w.frozen? ⟨g, 0, none⟩ = false ∧ w.frozen? ⟨g, 1, none⟩ = false ∧ w.frozen? ⟨g, 2, none⟩ = false := ⟨h.frozen 0, h.frozen 1, h.frozen 2⟩
theorem bel_put3 {w W : World} {g : Nat} (h : Below w.heap.size w W) (hg : w.heap.size ≤ g) (a0 a1 a2 : Value) : Below w.heap.size w (((W.setCell ⟨g, 0, none⟩ a0).setCell ⟨g, 1, none⟩ a1).setCell ⟨g, 2, none⟩ a2) := bel_set (bel_set (bel_set h hg 0 a0) hg 1 a1) hg 2 a2

/-- The ends: what lies in the cell of the results is handed back. -/
def CtlOk (xs : List PayT) (w : World) (e : Ending) (w' : World) : Prop := e = .returned (ctlV xs) ∧ Below w.heap.size w w'

/-- Where the loop of Of stands. -/
structure CtlAt (xs : List PayT) (w : World) (g k : Nat) (wr : World) : Prop where
  all : ∀ j, (hj : j < xs.length) → j < k → okM xs[j] = true
  lo : (0 ≤ sumA (xs.take k) ∧ 0 ≤ sumN (xs.take k))
  hi : (sumA (xs.take k) ≤ k * 1000000000000 ∧ sumN (xs.take k) ≤ k * 2147483647)
  res : Blk wr w.heap.size 80 #[.int .i64 0, .int .i64 0, .int .i64 0]
  acc : Blk wr g 80 #[.int .i64 xs.length, .int .i64 (sumA (xs.take k)), .int .i64 (sumN (xs.take k))]
  bel : Below w.heap.size w wr
  lt : w.heap.size < g
theorem CtlAt.adv {xs : List PayT} {w wr w' : World} {g k : Nat} (h : CtlAt xs w g k wr) (hb : Below wr.heap.size wr w') : CtlAt xs w g k w' :=
  ⟨h.all, h.lo, h.hi, h.res.adv hb, h.acc.adv hb, bel_adv h.bel hb, h.lt⟩
theorem CtlAt.alloc {xs : List PayT} {w wr : World} {g k : Nat} (h : CtlAt xs w g k wr) (o : Obj) : CtlAt xs w g k (wr.alloc o) := h.adv (below_new _ _)
theorem CtlAt.next {xs : List PayT} {w wr W : World} {g k : Nat} (h : CtlAt xs w g k wr) (hk : k < xs.length) (hx : okM xs[k] = true)
    (hres : Blk W w.heap.size 80 #[.int .i64 0, .int .i64 0, .int .i64 0])
    (hacc : Blk W g 80 #[.int .i64 xs.length, .int .i64 (sumA (xs.take k) + xs[k].amount), .int .i64 (sumN (xs.take k) + xs[k].number)]) (hb : Below w.heap.size w W) : CtlAt xs w g (k + 1) W := by
  obtain ⟨⟨a1, a2⟩, a3, a4⟩ := (okM_iff _).1 hx
  obtain ⟨l1, l2⟩ := h.lo
  obtain ⟨h1, h2⟩ := h.hi
  refine ⟨fun j hj hjk => ?_, ?_, ?_, hres, ?_, hb, h.lt⟩
  · rcases Nat.lt_or_ge j k with h3 | h3
    · exact h.all j hj h3
    · obtain rfl : j = k := by omega
      exact hx
  · rw [sumA_take xs k hk, sumN_take xs k hk]; omega
  · rw [sumA_take xs k hk, sumN_take xs k hk]; omega
  · rw [sumA_take xs k hk, sumN_take xs k hk]; exact hacc

set_option maxRecDepth 100000 in
set_option maxHeartbeats 4000000 in
theorem ctl_any (A : Option Addr) (cap : Nat) (xs : List PayT) (w : World) (h : SliceOf encM 2 w w.heap.size A xs) (hl : xs.length ≤ 9223372036854775806) :
    Calls Try.prog 46 #[.slice A xs.length cap] w (CtlOk xs w) := by
  go_enter Try.func46, Try.ntmps46
  go_upto_region 1 with fail
  have hB0 := Blk.new w 80 #[.int .i64 0, .int .i64 0, .int .i64 0]
  have hb0 : Below w.heap.size w (w.alloc (.cells #[.int .i64 0, .int .i64 0, .int .i64 0] 80)) := below_new _ _
  generalize w.alloc (.cells #[.int .i64 0, .int .i64 0, .int .i64 0] 80) = w0 at hB0 hb0 ⊢
  have hs0 := hB0.lt
  by_cases h4 : 4096 < xs.length
  · have HV := Lib.hid (ctlV_n (ctl_3 h4) (by omega))
    obtain ⟨r0, r1, r2⟩ := hB0.cells3
    obtain ⟨q0, q1, q2⟩ := hB0.frz3
    go_wp2
    have hfb := hB0.put3 rfl (.int .i64 0) (.int .i64 0) (.int .i64 0)
    have hfB := bel_put3 hb0 (Nat.le_refl _) (.int .i64 0) (.int .i64 0) (.int .i64 0)
    generalize World.setCell _ _ _ = WW at hfb hfB ⊢
    obtain ⟨z0, z1, z2⟩ := hfb.cells3
    refine bodyPost_ret (v := ctlV xs) ?_ rfl ⟨rfl, hfB⟩
    rw [HV.out]
    simp [results, Try.results46, go_sem, z0, z1, z2]
  go_wp2_with fail
  have hat0 : CtlAt xs w w0.heap.size 0 (w0.alloc (.cells #[.int .i64 xs.length, .int .i64 0, .int .i64 0] 80)) :=
    ⟨fun j _ hj => absurd hj (by omega), by simp [sumA, sumN], by simp [sumA, sumN], hB0.alloc _, Blk.new _ _ _, bel_alloc hb0 _, hs0⟩
  go_loopw [16] (fun i wr => ∃ k : Nat, k ≤ xs.length ∧ i = .int .i64 k ∧ CtlAt xs w w0.heap.size k wr) (fun i _ => xs.length - (intOf i).toNat)
  case atStart => exact ⟨0, by omega, rfl, hat0⟩
  case round =>
    clear hat0 hB0 hb0
    obtain ⟨k, hk, rfl, hat⟩ := hrel
    by_cases hlt : k < xs.length
    · obtain ⟨b, off, rfl, hb, hc⟩ := (h.adv hat.bel).at_ hlt
      have c0 := hc 0 _ rfl
      have c1 := hc 1 _ rfl
      simp only [Nat.add_zero] at c0
      clear hc
      obtain ⟨l1, l2⟩ := hat.lo
      obtain ⟨l3, l4⟩ := hat.hi
      have hsr := hat.res.lt
      have hsa := hat.acc.lt
      have HAT := Lib.hid hat
      by_cases hx : okM xs[k] = true
      · obtain ⟨⟨a1, a2⟩, a3, a4⟩ := (okM_iff _).1 hx
        have HX := Lib.hid hx
        obtain ⟨r0, r1, r2⟩ := hat.acc.cells3
        obtain ⟨q0, q1, q2⟩ := hat.acc.frz3
        have hne : w.heap.size ≠ w0.heap.size := by omega
        have HN := Lib.hid (fun W h1 h2 h3 => hat.next (W := W) hlt hx h1 h2 h3)
        have HR := Lib.hid (((hat.res.far (p := ⟨w0.heap.size, 1, none⟩) hne (.int .i64 (sumA (xs.take k) + xs[k].amount))).far (p := ⟨w0.heap.size, 2, none⟩) hne (.int .i64 (sumN (xs.take k) + xs[k].number))).alloc (.cells #[.int .i64 xs[k].number, .int .i64 xs[k].amount] 78))
        have HA := Lib.hid (((hat.acc.set_ 1 (.int .i64 (sumA (xs.take k) + xs[k].amount))).set_ 2 (.int .i64 (sumN (xs.take k) + xs[k].number))).alloc (.cells #[.int .i64 xs[k].number, .int .i64 xs[k].amount] 78))
        have HBL := Lib.hid (bel_alloc (bel_set (bel_set hat.bel (Nat.le_of_lt hat.lt) 1 (.int .i64 (sumA (xs.take k) + xs[k].amount))) (Nat.le_of_lt hat.lt) 2 (.int .i64 (sumN (xs.take k) + xs[k].number))) (.cells #[.int .i64 xs[k].number, .int .i64 xs[k].amount] 78))
        have HNX : Hid (CtlAt xs w w0.heap.size (k + 1) _) := HN.out _ HR.out HA.out HBL.out
        generalize sumA (xs.take k) = sa at *
        generalize sumN (xs.take k) = sn at *
        clear hat HAT hx HN HR HA HBL
        go_wp2
        go_roundw
        case rel => exact ⟨k + 1, by omega, by go_num, HNX.out⟩
        case measure => simp [intOf]; omega
      · have hx' : okM xs[k] = false := by simpa using hx
        have HV := Lib.hid (ctlV_n (ctl_2 h4 hlt hx') (by omega))
        obtain ⟨r0, r1, r2⟩ := hat.res.cells3
        obtain ⟨q0, q1, q2⟩ := hat.res.frz3
        have hfb := (hat.res.put3 rfl (.int .i64 0) (.int .i64 0) (.int .i64 0)).alloc (.cells #[.int .i64 xs[k].number, .int .i64 xs[k].amount] 78)
        have hfB := bel_alloc (bel_put3 hat.bel (Nat.le_refl _) (.int .i64 0) (.int .i64 0) (.int .i64 0)) (.cells #[.int .i64 xs[k].number, .int .i64 xs[k].amount] 78)
        have HFB := Lib.hid hfb
        have HFW := Lib.hid hfB
        clear hfb hfB hat HAT hx l1 l2 l3 l4
        by_cases d0 : 1 ≤ xs[k].number
        rotate_left
        · go_wp2
          have hfb := HFB.out
          have hfB := HFW.out
          generalize World.alloc _ _ = WW at hfb hfB ⊢
          obtain ⟨z0, z1, z2⟩ := hfb.cells3
          refine bodyPost_ret (v := ctlV xs) ?_ rfl ⟨rfl, hfB⟩
          rw [HV.out]
          simp [results, Try.results46, go_sem, z0, z1, z2]
        by_cases d1 : xs[k].number ≤ 2147483647
        rotate_left
        · go_wp2
          have hfb := HFB.out
          have hfB := HFW.out
          generalize World.alloc _ _ = WW at hfb hfB ⊢
          obtain ⟨z0, z1, z2⟩ := hfb.cells3
          refine bodyPost_ret (v := ctlV xs) ?_ rfl ⟨rfl, hfB⟩
          rw [HV.out]
          simp [results, Try.results46, go_sem, z0, z1, z2]
        by_cases d2 : 1 ≤ xs[k].amount
        rotate_left
        · go_wp2
          have hfb := HFB.out
          have hfB := HFW.out
          generalize World.alloc _ _ = WW at hfb hfB ⊢
          obtain ⟨z0, z1, z2⟩ := hfb.cells3
          refine bodyPost_ret (v := ctlV xs) ?_ rfl ⟨rfl, hfB⟩
          rw [HV.out]
          simp [results, Try.results46, go_sem, z0, z1, z2]
        by_cases d3 : xs[k].amount ≤ 1000000000000
        rotate_left
        · go_wp2
          have hfb := HFB.out
          have hfB := HFW.out
          generalize World.alloc _ _ = WW at hfb hfB ⊢
          obtain ⟨z0, z1, z2⟩ := hfb.cells3
          refine bodyPost_ret (v := ctlV xs) ?_ rfl ⟨rfl, hfB⟩
          rw [HV.out]
          simp [results, Try.results46, go_sem, z0, z1, z2]
        simp [okM, d0, d1, d2, d3] at hx'
    · obtain rfl : k = xs.length := by omega
      have hd0 : decide ((xs.length : Int) < (xs.length : Int)) = false := by simp
      have hd1 : decide (xs.length < xs.length) = false := by simp
      have HV := Lib.hid (ctlV_0 (ctl_0 h4 (fun j hj _ => hat.all j hj hj)))
      have hac := hat.acc
      rw [List.take_length] at hac
      obtain ⟨p0, p1, p2⟩ := hac.cells3
      obtain ⟨r0, r1, r2⟩ := hat.res.cells3
      obtain ⟨q0, q1, q2⟩ := hat.res.frz3
      have hsr := hat.res.lt
      have hsa := hat.acc.lt
      have hfb := hat.res.put3 rfl (.int .i64 xs.length) (.int .i64 (sumA xs)) (.int .i64 (sumN xs))
      have hfB := bel_put3 hat.bel (Nat.le_refl _) (.int .i64 xs.length) (.int .i64 (sumA xs)) (.int .i64 (sumN xs))
      have HFB := Lib.hid hfb
      have HFW := Lib.hid hfB
      clear hfb hfB hac hat
      go_wp2
      have hfb := HFB.out
      have hfB := HFW.out
      generalize World.setCell _ _ _ = WW at hfb hfB ⊢
      obtain ⟨z0, z1, z2⟩ := hfb.cells3
      refine bodyPost_ret (v := ctlV xs) ?_ rfl ⟨rfl, hfB⟩
      rw [HV.out]
      simp [results, Try.results46, go_sem, z0, z1, z2]

set_option maxRecDepth 100000 in
set_option maxHeartbeats 1000000 in
theorem valid39_any (x : PayT) (w : World) : Calls Try.prog 62 #[.agg #[.int .i64 x.number, .int .i64 x.amount]] w fun e w' => e = .returned (.bool (okM x)) ∧ Below w.heap.size w w' := by
  have HB : Hid (okM x = ((decide (1 ≤ x.number) && decide (x.number ≤ 2147483647)) && (decide (1 ≤ x.amount) && decide (x.amount ≤ 1000000000000)))) := rfl
  by_cases c0 : 1 ≤ x.number
  rotate_left
  · have HF : Hid (okM x = false) := by rw [Hid, HB.out]; simp [*]
    go_enter Try.func62, Try.ntmps62
    go_wp2
    go_ret
    exact ⟨by rw [HF.out]; rfl, below_new _ _⟩
  by_cases c1 : x.number ≤ 2147483647
  rotate_left
  · have HF : Hid (okM x = false) := by rw [Hid, HB.out]; simp [*]
    go_enter Try.func62, Try.ntmps62
    go_wp2
    go_ret
    exact ⟨by rw [HF.out]; rfl, below_new _ _⟩
  by_cases c2 : 1 ≤ x.amount
  rotate_left
  · have HF : Hid (okM x = false) := by rw [Hid, HB.out]; simp [*]
    go_enter Try.func62, Try.ntmps62
    go_wp2
    go_ret
    exact ⟨by rw [HF.out]; rfl, below_new _ _⟩
  by_cases c3 : x.amount ≤ 1000000000000
  rotate_left
  · have HF : Hid (okM x = false) := by rw [Hid, HB.out]; simp [*]
    go_enter Try.func62, Try.ntmps62
    go_wp2
    go_ret
    exact ⟨by rw [HF.out]; rfl, below_new _ _⟩
  skip
  have HF : Hid (okM x = true) := by rw [Hid, HB.out]; simp [*]
  go_enter Try.func62, Try.ntmps62
  go_wp2
  go_ret
  exact ⟨by rw [HF.out]; rfl, below_new _ _⟩

end Go.Proofs.Ytbiajkknpkeeoaa
