/- Contracts of delta.Schedule and of ints at one list. Conditions: as stated. -/
import Derived.Test.YtnbfhnhneakajaaSched
namespace Go.Proofs.Ytnbfhnhneakajaa
open Go.RowKit

set_option maxHeartbeats 1000000 in
theorem ints_self (A B : Option Addr) (c d : Nat) (xs : List Int) (w : World) (hx : SliceOf encI 1 w w.heap.size A xs) (hy : SliceOf encI 1 w w.heap.size B xs) (hl : xs.length ≤ 9223372036854775807) :
    Calls Try.prog 30 #[.slice A xs.length c, .slice B xs.length d] w fun e w' => e = .returned (.bool true) ∧ ∃ q, w' = w.drewN q := by
  have hlen' : ((xs.length : Int) != (xs.length : Int)) = false := by simp
  go_enter Try.func30, Try.ntmps30
  go_wp2
  go_loopw [5] (fun i wr => ∃ k q : Nat, k ≤ xs.length ∧ i = .int .i64 k ∧ Hid (wr = w.drewN q)) (fun i _ => xs.length - (intOf i).toNat)
  case atStart => exact ⟨0, 0, by omega, rfl, rfl⟩
  case round =>
    obtain ⟨k, q, hk, rfl, hw⟩ := hrel
    have hx' : SliceOf encI 1 wr w.heap.size A xs := by rw [hw.out]; exact hx
    have hy' : SliceOf encI 1 wr w.heap.size B xs := by rw [hw.out]; exact hy
    by_cases hlt : k < xs.length
    · obtain ⟨b1, off1, rfl, hb1, hc1⟩ := hx'.at_ hlt
      obtain ⟨b2, off2, rfl, hb2, hc2⟩ := hy'.at_ hlt
      have c0 := hc1 0 _ rfl
      have d0 := hc2 0 _ rfl
      simp only [Nat.add_zero, Nat.mul_one] at c0 d0
      clear hc1 hc2
      have hn : (xs[k] != xs[k]) = false := by simp
      go_wp2
      go_quiet (fail)
      go_wp2
      go_roundw
      case rel =>
        refine ⟨k + 1, q + nq, by omega, by go_num, ?_⟩
        show wr.drewN nq = w.drewN (q + nq)
        rw [hw.out, World.drewN_drewN]
      case measure => simp [intOf]; omega
    · go_wp2
      go_ret
      exact ⟨rfl, q, hw.out⟩

set_option maxHeartbeats 1000000 in
theorem take_any (net d keep share : Int) (g : Nat) (w : World) (hd : Blk w g 3 #[.int .i64 d]) (hk : Blk w (g + 1) 3 #[.int .i64 keep]) (hs : Blk w (g + 2) 3 #[.int .i64 share])
    (h0 : 0 ≤ d) (h0' : d ≤ 1000000000000) (h1 : 0 ≤ net) (h2 : net ≤ 1000000000) (h3 : 0 ≤ keep) (h4 : keep ≤ 1000000000) (h5 : 0 ≤ share) (h6 : share ≤ 1000000) :
    Calls Try.prog 44 #[.int .i64 net, .pointer (some ⟨g, 0, none⟩), .pointer (some ⟨g + 1, 0, none⟩), .pointer (some ⟨g + 2, 0, none⟩)] w fun e w' => e = .returned (.tuple #[.int .i64 (holdN d net keep share), .int .i64 0]) ∧ ∃ q, w' = (w.setCell ⟨g, 0, none⟩ (.int .i64 (d - holdN d net keep share))).drewN q := by
  have c0 := hd.cell 0
  have c1 := hk.cell 0
  have c2 := hs.cell 0
  have f0 := hd.frozen 0
  have l0 := hd.lt
  simp only [List.getElem?_toArray, List.getElem?_cons_zero] at c0 c1 c2
  obtain ⟨b1, b2, b3⟩ := holdN_bd d net keep share h0 h1 h2 h5 h6
  go_enter Try.func44, Try.ntmps44
  go_wp2_with fail
  refine (reduction_any d net keep share _ h1 h2 h3 h4 h5 h6).mono ?_
  rintro e w1 ⟨rfl, q1, rfl⟩
  go_wp2
  go_ret2
  exact ⟨rfl, q1, rfl⟩

theorem all_take (xs : List Int) (k : Nat) (h : k < xs.length) (p : Int → Bool) : (xs.take (k + 1)).all p = ((xs.take k).all p && p xs[k]) := by
  rw [List.take_succ_eq_append_getElem h, List.all_append]; simp

set_option maxRecDepth 100000 in
set_option maxHeartbeats 4000000 in
theorem schedule_any (debt keep share : Int) (A : Option Addr) (cap : Nat) (xs : List Int) (w : World) (h : SliceOf encI 1 w w.heap.size A xs) (hl : xs.length ≤ 9223372036854775806) :
    Calls Try.prog 26 #[.int .i64 debt, .slice A xs.length cap, .int .i64 keep, .int .i64 share] w (IntsPost (sR debt xs keep share) (sErr debt xs keep share) w) := by
  have hbw : Below w.heap.size w (((w.alloc (.cells #[.int .i64 debt] 3)).alloc (.cells #[.int .i64 keep] 3)).alloc (.cells #[.int .i64 share] 3)) := bel_alloc (bel_alloc (below_new _ _) _) _
  have hB0 := ((Blk.new w 3 #[.int .i64 debt]).alloc (.cells #[.int .i64 keep] 3)).alloc (.cells #[.int .i64 share] 3)
  have hB1 := (Blk.new (w.alloc (.cells #[.int .i64 debt] 3)) 3 #[.int .i64 keep]).alloc (.cells #[.int .i64 share] 3)
  have hB2 := Blk.new ((w.alloc (.cells #[.int .i64 debt] 3)).alloc (.cells #[.int .i64 keep] 3)) 3 #[.int .i64 share]
  simp only [World.size_alloc] at hB1 hB2
  by_cases hlen : 1024 < xs.length
  · have HP : Hid (sErr debt xs keep share = 3) := by simp only [Hid, sErr, if_pos hlen]
    go_enter Try.func26, Try.ntmps26
    go_wp2
    go_ret2
    exact IntsPost.fail (sR_nil HP.out (by omega)) HP.out hbw
  · have hlen' : xs.length ≤ 1024 := by omega
    clear hlen hl
    go_enter Try.func26, Try.ntmps26
    go_upto_region 3 with fail
    generalize hW : World.alloc _ _ = W at *
    clear hW
    have c0 := hB0.cell 0
    have c1 := hB1.cell 0
    have c2 := hB2.cell 0
    have l0 := hB0.lt
    have l1 := hB1.lt
    have l2 := hB2.lt
    simp only [List.getElem?_toArray, List.getElem?_cons_zero] at c0 c1 c2
    go_cut [10] (fun s wx => s = .bool (inB debt 0 1000000000000 && inB keep 0 1000000000 && inB share 0 1000000) ∧ W = wx)
    case first =>
      rcases o1 : inB debt 0 1000000000000 with _ | _ <;> rcases o2 : inB keep 0 1000000000 with _ | _ <;> rcases o3 : inB share 0 1000000 with _ | _
      all_goals
        go_wp2_with (go_at_call 36; refine (within_any _ _ _ _).mono ?_; rintro e w' ⟨rfl, rfl⟩)
        go_meet
        exact ⟨by rw [o1, o2, o3]; rfl, rfl⟩
    case rest =>
      obtain ⟨rfl, rfl⟩ := hcut
      have hSW := h.adv hbw
      go_wp2
      go_loop [10, 34] (fun s i => ∃ k : Nat, k ≤ xs.length ∧ i = .int .i64 k ∧ s = .bool (inB debt 0 1000000000000 && inB keep 0 1000000000 && inB share 0 1000000 && (xs.take k).all (fun n => inB n 0 1000000000))) (fun _ i => xs.length - (intOf i).toNat)
      case atStart => exact ⟨0, by omega, rfl, by simp⟩
      case round =>
        obtain ⟨k, hk, rfl, rfl⟩ := hrel
        by_cases hlt : k < xs.length
        · obtain ⟨b, off, rfl, hb, hc⟩ := hSW.at_ hlt
          have d0 := hc 0 _ rfl
          simp only [Nat.add_zero, Nat.mul_one] at d0
          clear hc
          have HT := Lib.hid (all_take xs k hlt (fun n => inB n 0 1000000000))
          rcases hv : (inB debt 0 1000000000000 && inB keep 0 1000000000 && inB share 0 1000000 && (xs.take k).all (fun n => inB n 0 1000000000)) with _ | _
          · have HV := Lib.hid hv
            clear hv
            go_wp2
            go_round
            case rel => exact ⟨k + 1, by omega, by go_num, by rw [HT.out, ← Bool.and_assoc, HV.out]; rfl⟩
            case measure => simp [intOf]; omega
          · have HV := Lib.hid hv
            clear hv
            rcases hn : inB xs[k] 0 1000000000 with _ | _
            all_goals
              go_wp2_with (go_at_call 36; refine (within_any _ _ _ _).mono ?_; rintro e w' ⟨rfl, rfl⟩)
              go_round
              case rel => exact ⟨k + 1, by omega, by go_num, by rw [HT.out, ← Bool.and_assoc, HV.out, hn]; rfl⟩
              case measure => simp [intOf]; omega
        · have ek : xs.take k = xs := List.take_of_length_le (by omega)
          rw [ek]
          clear ek
          have hso : (inB debt 0 1000000000000 && inB keep 0 1000000000 && inB share 0 1000000 && xs.all (fun n => inB n 0 1000000000)) = sOk debt xs keep share := rfl
          rw [hso]
          clear hso
          rcases hok : sOk debt xs keep share with _ | _
          · have HP := Lib.hid (sErr_no hlen' hok)
            go_wp2
            go_ret2
            exact IntsPost.fail (sR_nil HP.out (by omega)) HP.out hbw
          · have HP := Lib.hid (sErr_yes hlen' hok)
            have HR : Hid (sR debt xs keep share = (schedS keep share debt xs).1) := by rw [Hid, sR, if_pos HP.out]
            simp only [sOk, Bool.and_eq_true] at hok
            obtain ⟨⟨⟨o1, o2⟩, o3⟩, o4⟩ := hok
            have p1 : 0 ≤ debt ∧ debt ≤ 1000000000000 := by simpa [inB] using o1
            have p2 : 0 ≤ keep ∧ keep ≤ 1000000000 := by simpa [inB] using o2
            have p3 : 0 ≤ share ∧ share ≤ 1000000 := by simpa [inB] using o3
            obtain ⟨p1a, p1b⟩ := p1
            obtain ⟨p2a, p2b⟩ := p2
            obtain ⟨p3a, p3b⟩ := p3
            have HNB : Hid (∀ n ∈ xs, 0 ≤ n ∧ n ≤ 1000000000) := fun n hn => by
              have := List.all_eq_true.1 o4 n hn
              simpa [inB] using this
            have HSF := Lib.hid (schedS_facts keep share debt xs p1a p3a p3b HNB.out)
            clear o1 o2 o3 o4 c0 c1 c2
            go_wp2
            clear hk hlt
            go_loopw [14, 49] (fun v i wr => ∃ k : Nat, k ≤ xs.length ∧ i = .int .i64 k ∧ Blk wr w.heap.size 3 #[.int .i64 (schedS keep share debt (xs.take k)).2] ∧ Blk wr (w.heap.size + 1) 3 #[.int .i64 keep] ∧ Blk wr (w.heap.size + 1 + 1) 3 #[.int .i64 share] ∧ Own encI 1 3 wr W.heap.size v (schedS keep share debt (xs.take k)).1 ∧ Below w.heap.size w wr ∧ W.heap.size ≤ wr.heap.size) (fun _ i _ => xs.length - (intOf i).toNat)
            case atStart => exact ⟨0, by omega, rfl, hB0, hB1, hB2, Own.nil_ _ _, hbw, Nat.le_refl _⟩
            case round =>
              clear hB0 hB1 hB2
              obtain ⟨k, hk, rfl, hB0, hB1, hB2, hown, hbel, hWr⟩ := hrel
              have hbs := hbel.size
              obtain ⟨f1, f2, f3⟩ := HSF.out k hk
              by_cases hlt : k < xs.length
              · obtain ⟨b, off, rfl, hb, hc⟩ := (h.below hbel).at_ hlt
                have d0 := hc 0 _ rfl
                simp only [Nat.add_zero, Nat.mul_one] at d0
                clear hc
                obtain ⟨n1, n2⟩ := HNB.out _ (List.getElem_mem hlt)
                have HT := Lib.hid (schedS_take keep share debt xs k hlt)
                have F1 := Lib.hid f1
                clear f1
                generalize schedS keep share debt (xs.take k) = st at *
                obtain ⟨st1, st2⟩ := st
                simp only at hown f2 f3 hB0
                have hfl : st1.length < 4294967296 := by have := F1.out; simp only at this; omega
                go_wp2_with fail
                refine (take_any xs[k] st2 keep share w.heap.size _ hB0 hB1 hB2 f2 (by omega) n1 n2 p2a p2b p3a p3b).mono ?_
                rintro e w1 ⟨rfl, q1, rfl⟩
                have hB0' : Blk ((wr.setCell ⟨w.heap.size, 0, none⟩ (.int .i64 (st2 - holdN st2 xs[k] keep share))).drewN q1) w.heap.size 3 #[.int .i64 (st2 - holdN st2 xs[k] keep share)] := by
                  simpa using (hB0.set_ 0 (.int .i64 (st2 - holdN st2 xs[k] keep share))).drewN q1
                have hB1' := (hB1.far (p := ⟨w.heap.size, 0, none⟩) (by show w.heap.size + 1 ≠ w.heap.size; omega) (.int .i64 (st2 - holdN st2 xs[k] keep share))).drewN q1
                have hB2' := (hB2.far (p := ⟨w.heap.size, 0, none⟩) (by show w.heap.size + 1 + 1 ≠ w.heap.size; omega) (.int .i64 (st2 - holdN st2 xs[k] keep share))).drewN q1
                have hown' := (hown.setCell (p := ⟨w.heap.size, 0, none⟩) (fun g hg => by have := (hown.block_lt hg).1; show g ≠ w.heap.size; omega) (.int .i64 (st2 - holdN st2 xs[k] keep share))).drewN q1
                have hbel' := below_drewN (bel_set hbel (Nat.le_refl _) 0 (.int .i64 (st2 - holdN st2 xs[k] keep share))) q1
                have hWs : W.heap.size ≤ ((wr.setCell ⟨w.heap.size, 0, none⟩ (.int .i64 (st2 - holdN st2 xs[k] keep share))).drewN q1).heap.size := by simpa [World.setCell] using hWr
                go_upto_region 19 with fail
                generalize hX : (wr.setCell ⟨w.heap.size, 0, none⟩ (.int .i64 (st2 - holdN st2 xs[k] keep share))).drewN q1 = w1 at *
                clear hX hB0 hB1 hB2 hown hbel d0
                go_wp2_with (at_builtin; (refine wpList_append_one _ _ 22 (holdN st2 xs[k] keep share) _ 8 _ infoI Try.underlying22 hown' encI_len (by omega) rfl (encI_one _) hfl (by omega) hWs (by rfl) (by rfl) (by rfl) (by rfl) (by simp) (by rfl) ?_); intro v2 w6 hown7 hg7)
                have hr6 := fun q hq => (hown'.block_lt (g := q) hq).1
                have hb7 : Below w.heap.size w w6 := bel_only hbel' hg7 (fun g e => by have := hr6 g e; omega)
                go_roundw
                case rel =>
                  have hfin : ∃ k' : Nat, k' ≤ xs.length ∧ Value.int .i64 ((k : Int) + 1) = .int .i64 k' ∧ Blk w6 w.heap.size 3 #[.int .i64 (schedS keep share debt (xs.take k')).2] ∧ Blk w6 (w.heap.size + 1) 3 #[.int .i64 keep] ∧ Blk w6 (w.heap.size + 1 + 1) 3 #[.int .i64 share] ∧ Own encI 1 3 w6 W.heap.size v2 (schedS keep share debt (xs.take k')).1 ∧ Below w.heap.size w w6 ∧ W.heap.size ≤ w6.heap.size := by
                    refine ⟨k + 1, by omega, by go_num, ?_, hB1'.grown hg7 (fun e => by have := hr6 _ e.symm; omega), hB2'.grown hg7 (fun e => by have := hr6 _ e.symm; omega), by rw [HT.out]; exact hown7, hb7, Nat.le_trans hWs hg7.size⟩
                    rw [HT.out]
                    exact hB0'.grown hg7 (fun e => by have := hr6 _ e.symm; omega)
                  first | exact hfin | ((repeat apply Exists.intro); exact ⟨hfin, rfl⟩)
                case measure => simp [intOf]; omega
              · have ek : xs.take k = xs := List.take_of_length_le (by omega)
                rw [ek] at hown
                clear ek
                go_wp2
                go_ret2
                refine ⟨_, by rw [HP.out]; rfl, ?_, hbel⟩
                rw [HR.out]
                exact hown.weaken (by omega)

end Go.Proofs.Ytnbfhnhneakajaa
