/- Contracts of the reference's in, Valid and Record. Conditions: as stated. -/
import Derived.Test.YtcpkdpflkjjlcaaDed
import Derived.Deep.Light
namespace Go.Proofs.Ytcpkdpflkjjlcaa
open Go.RowKit

set_option maxHeartbeats 400000 in
theorem in_any (n m : Int) (w : World) : Calls Try.prog 37 #[.int .i64 n, .int .i64 m] w fun e w' => e = .returned (.bool (inB n m)) ∧ w = w' := by
  by_cases h1 : 0 ≤ n <;> by_cases h2 : n ≤ m
  all_goals
    have hb : inB n m = (decide (0 ≤ n) && decide (n ≤ m)) := by simp [inB]
    have HB := Lib.hid hb; clear hb
    go_enter Try.func37, Try.ntmps37
    go_wp2
    go_ret
    exact ⟨by rw [HB.out]; simp [h1, h2], rfl⟩

set_option maxHeartbeats 4000000 in
theorem valid27_any (A : Option Addr) (cap : Nat) (xs : List DedT) (w : World) (h : SliceOf encD 6 w w.heap.size A xs) (hz : ∀ x ∈ xs, x.code.size ≤ maxLen) (hl : xs.length ≤ 9223372036854775807) :
    Calls Try.prog 17 #[.slice A xs.length cap] w fun e w' => e = .returned (.bool (validD xs)) ∧ Below w.heap.size w w' := by
  have HZ := Lib.hid hz; clear hz
  by_cases hlen : 16 < xs.length
  · have HV : Hid (validD xs = false) := allOk_long hlen
    go_enter Try.func17, Try.ntmps17
    go_wp2
    go_ret
    exact ⟨by rw [HV.out]; rfl, Below.refl _ _⟩
  · have hlen' : xs.length ≤ 16 := by omega
    clear hlen hl
    go_enter Try.func17, Try.ntmps17
    go_wp2
    go_loopw [3] (fun i wr => ∃ k : Nat, k ≤ xs.length ∧ i = .int .i64 k ∧ Hid (∀ j, (hj : j < xs.length) → j < k → okD xs j xs[j] = true) ∧ Below w.heap.size w wr) (fun i _ => xs.length - (intOf i).toNat)
    case atStart => exact ⟨0, by omega, rfl, fun j _ hj => absurd hj (by omega), Below.refl _ _⟩
    case round =>
      obtain ⟨k, hk, rfl, hall, hbel⟩ := hrel
      by_cases hlt : k < xs.length
      · obtain ⟨b, off, rfl, hb, hc⟩ := (h.below hbel).at_ hlt
        have c0 := hc 0 _ rfl
        have c1 := hc 1 _ rfl
        have c2 := hc 2 _ rfl
        have c3 := hc 3 _ rfl
        have c4 := hc 4 _ rfl
        have c5 := hc 5 _ rfl
        simp only [Nat.add_zero] at c0
        have hzk := HZ.out _ (List.getElem_mem hlt)
        have hbs := hbel.size
        have HNO : Hid (okD xs k xs[k] = false → validD xs = false) := allOk_no hlt
        clear hc
        have hbwr : b < wr.heap.size := by omega
        rcases Nat.lt_or_ge 0 k with hk0 | hk0
        · obtain ⟨m, rfl⟩ : ∃ m, k = m + 1 := ⟨k - 1, by omega⟩
          obtain ⟨b', off', hA', hb', hc'⟩ := (h.below hbel).at_ (show m < xs.length by omega)
          injection hA' with hA'
          injection hA' with h1 h2
          subst h1 h2
          have p0 := hc' 0 _ rfl
          simp only [Nat.add_zero] at p0
          have HA := Lib.hid (ascAt_succ DedT.code xs m xs[m + 1] (by omega))
          clear hc'
          go_wp2_with fail
          have hWl : (wr.alloc (Obj.cells #[.string xs[m + 1].code, .int .i64 xs[m + 1].rank, .bool xs[m + 1].before, .int .i64 xs[m + 1].amount, .int .i64 xs[m + 1].rate, .int .i64 xs[m + 1].cap] 33)).heap.size = wr.heap.size + 1 := by simp
          have hWb : Below w.heap.size w (wr.alloc (Obj.cells #[.string xs[m + 1].code, .int .i64 xs[m + 1].rank, .bool xs[m + 1].before, .int .i64 xs[m + 1].amount, .int .i64 xs[m + 1].rate, .int .i64 xs[m + 1].cap] 33)) := hbel.alloc hbs _
          have hWB := Blk.new wr 33 #[.string xs[m + 1].code, .int .i64 xs[m + 1].rank, .bool xs[m + 1].before, .int .i64 xs[m + 1].amount, .int .i64 xs[m + 1].rate, .int .i64 xs[m + 1].cap]
          have hWp := (World.cell?_alloc_past (w := wr) (Obj.cells #[.string xs[m + 1].code, .int .i64 xs[m + 1].rank, .bool xs[m + 1].before, .int .i64 xs[m + 1].amount, .int .i64 xs[m + 1].rate, .int .i64 xs[m + 1].cap] 33) b (off + m * 6) hbwr).trans p0
          generalize wr.alloc (Obj.cells _ _) = W at hWl hWb hWB hWp ⊢
          have HWl := Lib.hid hWl
          have e0 := Bw.cell (w := W) (a := ⟨wr.heap.size, 0, none⟩) (by show wr.heap.size < W.heap.size; omega) (hWB.cell 0)
          have e1 := Bw.cell (w := W) (a := ⟨wr.heap.size, 1, none⟩) (by show wr.heap.size < W.heap.size; omega) (hWB.cell 1)
          have e3 := Bw.cell (w := W) (a := ⟨wr.heap.size, 3, none⟩) (by show wr.heap.size < W.heap.size; omega) (hWB.cell 3)
          have e5 := Bw.cell (w := W) (a := ⟨wr.heap.size, 5, none⟩) (by show wr.heap.size < W.heap.size; omega) (hWB.cell 5)
          have e4 := Bw.cell (w := W) (a := ⟨wr.heap.size, 4, none⟩) (by show wr.heap.size < W.heap.size; omega) (hWB.cell 4)
          have e99 := Bw.cell (w := W) (a := ⟨b, off + m * 6, none⟩) (by show b < W.heap.size; omega) hWp
          clear hWp p0
          have HWs : Hid (w.heap.size ≤ W.heap.size) := by show w.heap.size ≤ W.heap.size; omega
          clear hWl hWB c0 c1 c2 c3 c4 c5
          have hcs : ((nameB xs[m + 1].code) = false) ∨ ((nameB xs[m + 1].code) = true ∧ (Op.bytesLess xs[m].code.toList xs[m + 1].code.toList) = false) ∨ ((nameB xs[m + 1].code) = true ∧ (Op.bytesLess xs[m].code.toList xs[m + 1].code.toList) = true ∧ (inB xs[m + 1].rank 99) = false) ∨ ((nameB xs[m + 1].code) = true ∧ (Op.bytesLess xs[m].code.toList xs[m + 1].code.toList) = true ∧ (inB xs[m + 1].rank 99) = true ∧ (inB xs[m + 1].amount 1000000000) = false) ∨ ((nameB xs[m + 1].code) = true ∧ (Op.bytesLess xs[m].code.toList xs[m + 1].code.toList) = true ∧ (inB xs[m + 1].rank 99) = true ∧ (inB xs[m + 1].amount 1000000000) = true ∧ (inB xs[m + 1].cap 1000000000) = false) ∨ ((nameB xs[m + 1].code) = true ∧ (Op.bytesLess xs[m].code.toList xs[m + 1].code.toList) = true ∧ (inB xs[m + 1].rank 99) = true ∧ (inB xs[m + 1].amount 1000000000) = true ∧ (inB xs[m + 1].cap 1000000000) = true ∧ (inB xs[m + 1].rate 1000000) = false) ∨ ((nameB xs[m + 1].code) = true ∧ (Op.bytesLess xs[m].code.toList xs[m + 1].code.toList) = true ∧ (inB xs[m + 1].rank 99) = true ∧ (inB xs[m + 1].amount 1000000000) = true ∧ (inB xs[m + 1].cap 1000000000) = true ∧ (inB xs[m + 1].rate 1000000) = true) := by
            go_light
            generalize nameB xs[m + 1].code = q0
            generalize Op.bytesLess xs[m].code.toList xs[m + 1].code.toList = q1
            generalize inB xs[m + 1].rank 99 = q2
            generalize inB xs[m + 1].amount 1000000000 = q3
            generalize inB xs[m + 1].cap 1000000000 = q4
            generalize inB xs[m + 1].rate 1000000 = q5
            cases q0 <;> cases q1 <;> cases q2 <;> cases q3 <;> cases q4 <;> cases q5 <;> simp
          rcases hcs with a0 | ⟨a0, a1⟩ | ⟨a0, a1, a2⟩ | ⟨a0, a1, a2, a3⟩ | ⟨a0, a1, a2, a3, a4⟩ | ⟨a0, a1, a2, a3, a4, a5⟩ | ⟨a0, a1, a2, a3, a4, a5⟩
          all_goals
            refine wp_region_below (by kernel_rfl) (by kernel_rfl) ?_
            repeat (first | go_big_quiet_step ((first | exact Bw.call _ (isName17_any _ _ hzk) | exact Bw.call_same _ (in_any _ _ _))) | quiet_step ((first | exact Bw.call _ (isName17_any _ _ hzk) | exact Bw.call_same _ (in_any _ _ _))))
            refine wpQuiet_nil ?_
            intro W2 hw'
            obtain ⟨⟨W9, hW2⟩, hw''⟩ := hw'
            subst hw''
            have hW3 : Below w.heap.size w W2 := hWb.trans (hW2.mono HWs.out)
            go_wp2
            first
              | (go_ret
                 refine ⟨?_, hW3⟩
                 have hq : okD xs (m + 1) xs[m + 1] = false := by
                   go_light
                   simp only [okD, HA.out]
                   simp [*]
                 rw [HNO.out hq]; rfl)
              | (go_roundw
                 case rel =>
                   have hok : ∀ j, (hj : j < xs.length) → j < m + 1 + 1 → okD xs j xs[j] = true := by
                     intro j hj hjk
                     rcases Nat.lt_or_ge j (m + 1) with h1 | h1
                     · exact hall.out j hj h1
                     · obtain rfl : j = m + 1 := by omega
                       go_light
                       simp only [okD, HA.out]
                       simp [*]
                   first | exact ⟨m + 1 + 1, by omega, by go_num, hok, hW3⟩ | ((repeat apply Exists.intro); exact ⟨⟨m + 1 + 1, by omega, by go_num, hok, hW3⟩, rfl⟩)
                 case measure => simp [intOf]; omega)
        · have HA : Hid (ascAt DedT.code xs k xs[k] = true) := by
            have e : k = 0 := by omega
            unfold Hid ascAt
            simp [e]
          have hg0 : decide ((0 : Int) < (k : Int)) = false := by simp; omega
          have hg1 : decide (0 < k) = false := by simp; omega
          go_wp2_with fail
          have hWl : (wr.alloc (Obj.cells #[.string xs[k].code, .int .i64 xs[k].rank, .bool xs[k].before, .int .i64 xs[k].amount, .int .i64 xs[k].rate, .int .i64 xs[k].cap] 33)).heap.size = wr.heap.size + 1 := by simp
          have hWb : Below w.heap.size w (wr.alloc (Obj.cells #[.string xs[k].code, .int .i64 xs[k].rank, .bool xs[k].before, .int .i64 xs[k].amount, .int .i64 xs[k].rate, .int .i64 xs[k].cap] 33)) := hbel.alloc hbs _
          have hWB := Blk.new wr 33 #[.string xs[k].code, .int .i64 xs[k].rank, .bool xs[k].before, .int .i64 xs[k].amount, .int .i64 xs[k].rate, .int .i64 xs[k].cap]
          generalize wr.alloc (Obj.cells _ _) = W at hWl hWb hWB  ⊢
          have HWl := Lib.hid hWl
          have e0 := Bw.cell (w := W) (a := ⟨wr.heap.size, 0, none⟩) (by show wr.heap.size < W.heap.size; omega) (hWB.cell 0)
          have e1 := Bw.cell (w := W) (a := ⟨wr.heap.size, 1, none⟩) (by show wr.heap.size < W.heap.size; omega) (hWB.cell 1)
          have e3 := Bw.cell (w := W) (a := ⟨wr.heap.size, 3, none⟩) (by show wr.heap.size < W.heap.size; omega) (hWB.cell 3)
          have e5 := Bw.cell (w := W) (a := ⟨wr.heap.size, 5, none⟩) (by show wr.heap.size < W.heap.size; omega) (hWB.cell 5)
          have e4 := Bw.cell (w := W) (a := ⟨wr.heap.size, 4, none⟩) (by show wr.heap.size < W.heap.size; omega) (hWB.cell 4)
          have HWs : Hid (w.heap.size ≤ W.heap.size) := by show w.heap.size ≤ W.heap.size; omega
          clear hWl hWB c0 c1 c2 c3 c4 c5
          have hcs : ((nameB xs[k].code) = false) ∨ ((nameB xs[k].code) = true ∧ (inB xs[k].rank 99) = false) ∨ ((nameB xs[k].code) = true ∧ (inB xs[k].rank 99) = true ∧ (inB xs[k].amount 1000000000) = false) ∨ ((nameB xs[k].code) = true ∧ (inB xs[k].rank 99) = true ∧ (inB xs[k].amount 1000000000) = true ∧ (inB xs[k].cap 1000000000) = false) ∨ ((nameB xs[k].code) = true ∧ (inB xs[k].rank 99) = true ∧ (inB xs[k].amount 1000000000) = true ∧ (inB xs[k].cap 1000000000) = true ∧ (inB xs[k].rate 1000000) = false) ∨ ((nameB xs[k].code) = true ∧ (inB xs[k].rank 99) = true ∧ (inB xs[k].amount 1000000000) = true ∧ (inB xs[k].cap 1000000000) = true ∧ (inB xs[k].rate 1000000) = true) := by
            go_light
            generalize nameB xs[k].code = q0
            generalize inB xs[k].rank 99 = q1
            generalize inB xs[k].amount 1000000000 = q2
            generalize inB xs[k].cap 1000000000 = q3
            generalize inB xs[k].rate 1000000 = q4
            cases q0 <;> cases q1 <;> cases q2 <;> cases q3 <;> cases q4 <;> simp
          rcases hcs with a0 | ⟨a0, a1⟩ | ⟨a0, a1, a2⟩ | ⟨a0, a1, a2, a3⟩ | ⟨a0, a1, a2, a3, a4⟩ | ⟨a0, a1, a2, a3, a4⟩
          all_goals
            refine wp_region_below (by kernel_rfl) (by kernel_rfl) ?_
            repeat (first | go_big_quiet_step ((first | exact Bw.call _ (isName17_any _ _ hzk) | exact Bw.call_same _ (in_any _ _ _))) | quiet_step ((first | exact Bw.call _ (isName17_any _ _ hzk) | exact Bw.call_same _ (in_any _ _ _))))
            refine wpQuiet_nil ?_
            intro W2 hw'
            obtain ⟨⟨W9, hW2⟩, hw''⟩ := hw'
            subst hw''
            have hW3 : Below w.heap.size w W2 := hWb.trans (hW2.mono HWs.out)
            go_wp2
            first
              | (go_ret
                 refine ⟨?_, hW3⟩
                 have hq : okD xs (k) xs[k] = false := by
                   go_light
                   simp only [okD, HA.out]
                   simp [*]
                 rw [HNO.out hq]; rfl)
              | (go_roundw
                 case rel =>
                   have hok : ∀ j, (hj : j < xs.length) → j < k + 1 → okD xs j xs[j] = true := by
                     intro j hj hjk
                     rcases Nat.lt_or_ge j (k) with h1 | h1
                     · exact hall.out j hj h1
                     · obtain rfl : j = k := by omega
                       go_light
                       simp only [okD, HA.out]
                       simp [*]
                   first | exact ⟨k + 1, by omega, by go_num, hok, hW3⟩ | ((repeat apply Exists.intro); exact ⟨⟨k + 1, by omega, by go_num, hok, hW3⟩, rfl⟩)
                 case measure => simp [intOf]; omega)
      · go_wp2
        go_ret
        have hv : validD xs = true := allOk_yes hlen' (fun i hi => hall.out i hi (by omega))
        exact ⟨by rw [hv]; rfl, hbel⟩

set_option maxHeartbeats 4000000 in
theorem rec27_any (A : Option Addr) (cap : Nat) (xs : List Elem) (w : World) (h : SliceOf encE 2 w w.heap.size A xs) (hz : ∀ x ∈ xs, x.code.size ≤ maxLen) (hl : xs.length ≤ 9223372036854775807) :
    Calls Try.prog 19 #[.slice A xs.length cap] w fun e w' => e = .returned (.bool (recB xs)) ∧ Below w.heap.size w w' := by
  have HZ := Lib.hid hz; clear hz
  by_cases hlen : 128 < xs.length
  · have HV : Hid (recB xs = false) := allOk_long hlen
    go_enter Try.func19, Try.ntmps19
    go_wp2
    go_ret
    exact ⟨by rw [HV.out]; rfl, Below.refl _ _⟩
  · have hlen' : xs.length ≤ 128 := by omega
    clear hlen hl
    go_enter Try.func19, Try.ntmps19
    go_wp2
    go_loopw [3] (fun i wr => ∃ k : Nat, k ≤ xs.length ∧ i = .int .i64 k ∧ Hid (∀ j, (hj : j < xs.length) → j < k → okR xs j xs[j] = true) ∧ Below w.heap.size w wr) (fun i _ => xs.length - (intOf i).toNat)
    case atStart => exact ⟨0, by omega, rfl, fun j _ hj => absurd hj (by omega), Below.refl _ _⟩
    case round =>
      obtain ⟨k, hk, rfl, hall, hbel⟩ := hrel
      by_cases hlt : k < xs.length
      · obtain ⟨b, off, rfl, hb, hc⟩ := (h.below hbel).at_ hlt
        have c0 := hc 0 _ rfl
        have c1 := hc 1 _ rfl
        simp only [Nat.add_zero] at c0
        have hzk := HZ.out _ (List.getElem_mem hlt)
        have hbs := hbel.size
        have HNO : Hid (okR xs k xs[k] = false → recB xs = false) := allOk_no hlt
        clear hc
        have hbwr : b < wr.heap.size := by omega
        rcases Nat.lt_or_ge 0 k with hk0 | hk0
        · obtain ⟨m, rfl⟩ : ∃ m, k = m + 1 := ⟨k - 1, by omega⟩
          obtain ⟨b', off', hA', hb', hc'⟩ := (h.below hbel).at_ (show m < xs.length by omega)
          injection hA' with hA'
          injection hA' with h1 h2
          subst h1 h2
          have p0 := hc' 0 _ rfl
          simp only [Nat.add_zero] at p0
          have HA := Lib.hid (ascAt_succ Elem.code xs m xs[m + 1] (by omega))
          clear hc'
          go_wp2_with fail
          have e0 := Bw.cell (w := wr) (a := ⟨b, off + (m + 1) * 2, none⟩) (by show b < wr.heap.size; omega) c0
          have e1 := Bw.cell (w := wr) (a := ⟨b, off + (m + 1) * 2 + 1, none⟩) (by show b < wr.heap.size; omega) c1
          have e99 := Bw.cell (w := wr) (a := ⟨b, off + m * 2, none⟩) (by show b < wr.heap.size; omega) p0
          clear p0
          have HWs : Hid (w.heap.size ≤ wr.heap.size) := hbs
          have hWb := hbel
          clear c0 c1
          have hcs : ((nameB xs[m + 1].code) = false) ∨ ((nameB xs[m + 1].code) = true ∧ (Op.bytesLess xs[m].code.toList xs[m + 1].code.toList) = false) ∨ ((nameB xs[m + 1].code) = true ∧ (Op.bytesLess xs[m].code.toList xs[m + 1].code.toList) = true ∧ (inB xs[m + 1].amount 1000000000000) = false) ∨ ((nameB xs[m + 1].code) = true ∧ (Op.bytesLess xs[m].code.toList xs[m + 1].code.toList) = true ∧ (inB xs[m + 1].amount 1000000000000) = true) := by
            go_light
            generalize nameB xs[m + 1].code = q0
            generalize Op.bytesLess xs[m].code.toList xs[m + 1].code.toList = q1
            generalize inB xs[m + 1].amount 1000000000000 = q2
            cases q0 <;> cases q1 <;> cases q2 <;> simp
          rcases hcs with a0 | ⟨a0, a1⟩ | ⟨a0, a1, a2⟩ | ⟨a0, a1, a2⟩
          all_goals
            refine wp_region_below (by kernel_rfl) (by kernel_rfl) ?_
            repeat (first | go_big_quiet_step ((first | exact Bw.call _ (isName17_any _ _ hzk) | exact Bw.call_same _ (in_any _ _ _))) | quiet_step ((first | exact Bw.call _ (isName17_any _ _ hzk) | exact Bw.call_same _ (in_any _ _ _))))
            refine wpQuiet_nil ?_
            intro W2 hw'
            obtain ⟨⟨W9, hW2⟩, hw''⟩ := hw'
            subst hw''
            have hW3 : Below w.heap.size w W2 := hWb.trans (hW2.mono HWs.out)
            go_wp2
            first
              | (go_ret
                 refine ⟨?_, hW3⟩
                 have hq : okR xs (m + 1) xs[m + 1] = false := by
                   go_light
                   simp only [okR, HA.out]
                   simp [*]
                 rw [HNO.out hq]; rfl)
              | (go_roundw
                 case rel =>
                   have hok : ∀ j, (hj : j < xs.length) → j < m + 1 + 1 → okR xs j xs[j] = true := by
                     intro j hj hjk
                     rcases Nat.lt_or_ge j (m + 1) with h1 | h1
                     · exact hall.out j hj h1
                     · obtain rfl : j = m + 1 := by omega
                       go_light
                       simp only [okR, HA.out]
                       simp [*]
                   first | exact ⟨m + 1 + 1, by omega, by go_num, hok, hW3⟩ | ((repeat apply Exists.intro); exact ⟨⟨m + 1 + 1, by omega, by go_num, hok, hW3⟩, rfl⟩)
                 case measure => simp [intOf]; omega)
        · have HA : Hid (ascAt Elem.code xs k xs[k] = true) := by
            have e : k = 0 := by omega
            unfold Hid ascAt
            simp [e]
          have hg0 : decide ((0 : Int) < (k : Int)) = false := by simp; omega
          have hg1 : decide (0 < k) = false := by simp; omega
          go_wp2_with fail
          have e0 := Bw.cell (w := wr) (a := ⟨b, off + (k) * 2, none⟩) (by show b < wr.heap.size; omega) c0
          have e1 := Bw.cell (w := wr) (a := ⟨b, off + (k) * 2 + 1, none⟩) (by show b < wr.heap.size; omega) c1
          have HWs : Hid (w.heap.size ≤ wr.heap.size) := hbs
          have hWb := hbel
          clear c0 c1
          have hcs : ((nameB xs[k].code) = false) ∨ ((nameB xs[k].code) = true ∧ (inB xs[k].amount 1000000000000) = false) ∨ ((nameB xs[k].code) = true ∧ (inB xs[k].amount 1000000000000) = true) := by
            go_light
            generalize nameB xs[k].code = q0
            generalize inB xs[k].amount 1000000000000 = q1
            cases q0 <;> cases q1 <;> simp
          rcases hcs with a0 | ⟨a0, a1⟩ | ⟨a0, a1⟩
          all_goals
            refine wp_region_below (by kernel_rfl) (by kernel_rfl) ?_
            repeat (first | go_big_quiet_step ((first | exact Bw.call _ (isName17_any _ _ hzk) | exact Bw.call_same _ (in_any _ _ _))) | quiet_step ((first | exact Bw.call _ (isName17_any _ _ hzk) | exact Bw.call_same _ (in_any _ _ _))))
            refine wpQuiet_nil ?_
            intro W2 hw'
            obtain ⟨⟨W9, hW2⟩, hw''⟩ := hw'
            subst hw''
            have hW3 : Below w.heap.size w W2 := hWb.trans (hW2.mono HWs.out)
            go_wp2
            first
              | (go_ret
                 refine ⟨?_, hW3⟩
                 have hq : okR xs (k) xs[k] = false := by
                   go_light
                   simp only [okR, HA.out]
                   simp [*]
                 rw [HNO.out hq]; rfl)
              | (go_roundw
                 case rel =>
                   have hok : ∀ j, (hj : j < xs.length) → j < k + 1 → okR xs j xs[j] = true := by
                     intro j hj hjk
                     rcases Nat.lt_or_ge j (k) with h1 | h1
                     · exact hall.out j hj h1
                     · obtain rfl : j = k := by omega
                       go_light
                       simp only [okR, HA.out]
                       simp [*]
                   first | exact ⟨k + 1, by omega, by go_num, hok, hW3⟩ | ((repeat apply Exists.intro); exact ⟨⟨k + 1, by omega, by go_num, hok, hW3⟩, rfl⟩)
                 case measure => simp [intOf]; omega)
      · go_wp2
        go_ret
        have hv : recB xs = true := allOk_yes hlen' (fun i hi => hall.out i hi (by omega))
        exact ⟨by rw [hv]; rfl, hbel⟩

end Go.Proofs.Ytcpkdpflkjjlcaa
