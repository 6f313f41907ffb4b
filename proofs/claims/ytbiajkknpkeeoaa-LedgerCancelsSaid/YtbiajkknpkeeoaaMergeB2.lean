/- Contract of payrollref44.Merge: it hands back mRB and mErrB. Conditions: the slice's length fits an int. -/
import Derived.Test.YtbiajkknpkeeoaaMergeB
import Derived.Test.YtbiajkknpkeeoaaOwnSet
import Derived.RegionTactic
namespace Go.Proofs.Ytbiajkknpkeeoaa
open Go.RowKit

set_option maxHeartbeats 1000000 in
theorem total44_any (n : Int) (w : World) : Calls Try.prog 45 #[.int .i64 n] w fun e w' => e = .returned (.bool (maxN n)) ∧ w = w' := by
  by_cases h1 : -1000000000000 ≤ n <;> by_cases h2 : n ≤ 1000000000000
  all_goals
    have hb : maxN n = (decide (-1000000000000 ≤ n) && decide (n ≤ 1000000000000)) := by simp [maxN]
    have HB := Lib.hid hb; clear hb
    go_enter Try.func45, Try.ntmps45
    go_wp2
    go_ret
    exact ⟨by rw [HB.out]; simp [h1, h2], rfl⟩
theorem sums_bd {xs : List BookT} (h : ∀ x ∈ xs, okB x = true) (hl : xs.length ≤ 131072) : ∀ y ∈ RB.sums xs, -200000000000000000 ≤ y.amount ∧ y.amount ≤ 200000000000000000 := by
  intro y hy
  have h1 := (Rec.mem_sorted RB_law (Rec.sums_sorted RB_law xs) y).1 hy
  rw [Rec.sums_tot RB_law] at h1
  have h2 := Rec.tot_bd (R := RB) xs (RB.key y) 1000000000000 (by omega) (fun x hx => ((okB_iff x).1 (h x hx)).2.2)
  have h3 : y.amount = RB.tot xs (RB.key y) := h1.2
  omega

set_option maxRecDepth 100000 in
set_option maxHeartbeats 8000000 in
theorem mergeB44_any (A : Option Addr) (cap : Nat) (xs : List BookT) (w : World) (h : SliceOf encB 3 w w.heap.size A xs) (hl : xs.length ≤ 9223372036854775806) :
    Calls Try.prog 22 #[.slice A xs.length cap] w (BPost (mRB xs) (mErrB xs) w) := by
  by_cases hlen : 131072 < xs.length
  · have HP := Lib.hid (mErrB_3 hlen)
    go_enter Try.func22, Try.ntmps22
    go_wp2
    go_ret2
    exact BPost.fail (mRB_no HP.out (by omega)) HP.out (Below.refl _ _)
  · have hlen' : xs.length ≤ 131072 := by omega
    clear hlen hl
    go_enter Try.func22, Try.ntmps22
    go_wp2
    go_loopw [4, 5] (fun v i wr => ∃ k : Nat, k ≤ xs.length ∧ i = .int .i64 k ∧ Hid (∀ x ∈ xs.take k, okB x = true) ∧ Own encB 3 42 wr w.heap.size v (RB.sums (xs.take k)) ∧ Below w.heap.size w wr) (fun _ i _ => xs.length - (intOf i).toNat)
    case atStart => exact ⟨0, by omega, rfl, (fun x hx => by simp at hx), Own.nil_ _ _, Below.refl _ _⟩
    case round =>
      obtain ⟨k, hk, rfl, hall, hown, hbel⟩ := hrel
      have hbs := hbel.size
      by_cases hlt : k < xs.length
      · obtain ⟨b, off, rfl, hb, hc⟩ := (h.below hbel).at_ hlt
        have c0 := hc 0 _ rfl
        have c1 := hc 1 _ rfl
        have c2 := hc 2 _ rfl
        simp only [Nat.add_zero] at c0
        clear hc
        have HBAD : Hid (okB xs[k] = false → mErrB xs = 2) := fun hf => mErrB_2 (l := xs) (by omega) (by rw [List.all_eq_false]; exact ⟨xs[k], List.getElem_mem _, by simp [hf]⟩)
        by_cases s0 : 0 ≤ xs[k].run
        rotate_left
        · have hf : okB xs[k] = false := by simp [okB, *]
          have HP := Lib.hid (HBAD.out hf)
          clear hf
          (try (have hmx : maxN xs[k].amount = false := by simp_all))
          go_wp2_with (go_at_call 45; refine (total44_any _ _).mono ?_; rintro e w' ⟨rfl, rfl⟩)
          go_ret2
          exact BPost.fail (mRB_no HP.out (by omega)) HP.out (bel_alloc hbel _)
        by_cases s1 : xs[k].run ≤ 256
        rotate_left
        · have hf : okB xs[k] = false := by simp [okB, *]
          have HP := Lib.hid (HBAD.out hf)
          clear hf
          (try (have hmx : maxN xs[k].amount = false := by simp_all))
          go_wp2_with (go_at_call 45; refine (total44_any _ _).mono ?_; rintro e w' ⟨rfl, rfl⟩)
          go_ret2
          exact BPost.fail (mRB_no HP.out (by omega)) HP.out (bel_alloc hbel _)
        by_cases s2 : 100 ≤ xs[k].account
        rotate_left
        · have hf : okB xs[k] = false := by simp [okB, *]
          have HP := Lib.hid (HBAD.out hf)
          clear hf
          (try (have hmx : maxN xs[k].amount = false := by simp_all))
          go_wp2_with (go_at_call 45; refine (total44_any _ _).mono ?_; rintro e w' ⟨rfl, rfl⟩)
          go_ret2
          exact BPost.fail (mRB_no HP.out (by omega)) HP.out (bel_alloc hbel _)
        by_cases s3 : xs[k].account ≤ 9999
        rotate_left
        · have hf : okB xs[k] = false := by simp [okB, *]
          have HP := Lib.hid (HBAD.out hf)
          clear hf
          (try (have hmx : maxN xs[k].amount = false := by simp_all))
          go_wp2_with (go_at_call 45; refine (total44_any _ _).mono ?_; rintro e w' ⟨rfl, rfl⟩)
          go_ret2
          exact BPost.fail (mRB_no HP.out (by omega)) HP.out (bel_alloc hbel _)
        by_cases s4 : maxN xs[k].amount = true
        rotate_left
        · have hf : okB xs[k] = false := by simp [okB, *]
          have HP := Lib.hid (HBAD.out hf)
          clear hf
          (try (have hmx : maxN xs[k].amount = false := by simp_all))
          go_wp2_with (go_at_call 45; refine (total44_any _ _).mono ?_; rintro e w' ⟨rfl, rfl⟩)
          go_ret2
          exact BPost.fail (mRB_no HP.out (by omega)) HP.out (bel_alloc hbel _)
        skip
        have hok : okB xs[k] = true := by simp [okB, *]
        have hamt := ((okB_iff _).1 hok).2.2
        obtain ⟨ha1, ha2⟩ := hamt
        have hall1 : ∀ x ∈ xs.take (k + 1), okB x = true := by
          intro x hx
          rw [List.take_succ_eq_append_getElem hlt] at hx
          rcases List.mem_append.1 hx with hx | hx
          · exact hall.out x hx
          · simp at hx; subst hx; exact hok
        have HALL := Lib.hid hall1
        have HSN : Hid (RB.sums (xs.take (k + 1)) = RB.put (RB.sums (xs.take k)) xs[k]) := by rw [Hid, List.take_succ_eq_append_getElem hlt, Rec.sums_snoc]
        have HBD := Lib.hid (sums_bd hall.out (by simp; omega))
        have hml : (RB.sums (xs.take k)).length ≤ 131072 := Nat.le_trans (Rec.sums_length _) (by simp; omega)
        generalize RB.sums (xs.take k) = ms at hown HSN HBD hml
        have hnb := fun g hg => (hown.block_lt (g := g) hg).2
        have hBx := Blk.new wr 42 #[.int .i64 xs[k].run, .int .i64 xs[k].account, .int .i64 xs[k].amount]
        have hownW := hown.alloc (.cells #[.int .i64 xs[k].run, .int .i64 xs[k].account, .int .i64 xs[k].amount] 42)
        have hbelW := bel_alloc hbel (.cells #[.int .i64 xs[k].run, .int .i64 xs[k].account, .int .i64 xs[k].amount] 42)
        go_wp2_with (go_at_call 45; refine (total44_any _ _).mono ?_; rintro e w' ⟨rfl, rfl⟩)
        generalize wr.alloc (Obj.cells _ _) = W at hBx hownW hbelW ⊢
        obtain ⟨g0, hg0e⟩ : ∃ g0, g0 = wr.heap.size := ⟨_, rfl⟩
        rw [← hg0e] at hBx hnb ⊢
        have hg0w : w.heap.size ≤ g0 := by omega
        clear hg0e hown hbel hall hall1 c0 c1 c2 HBAD hbs
        obtain ⟨A5, c5, rfl, hS5, hB5, hlc5, hcm5⟩ := hownW.form2 encB_len
        have hg0n : ∀ g, (Value.slice A5 ms.length c5).ownBlock = some g → g < g0 := hnb
        clear hnb hB5
        go_loopw [7] (fun j wr3 => ∃ j' q : Nat, j' ≤ ms.length ∧ j = .int .i64 j' ∧ Hid (∀ i, (hi : i < ms.length) → i < j' → RB.lt (RB.key ms[i]) (RB.key xs[k]) = true) ∧ Hid (wr3 = W.drewN q)) (fun j _ => ms.length - (intOf j).toNat)
        case atStart => exact ⟨0, 0, by omega, rfl, fun i _ hi => absurd hi (by omega), rfl⟩
        case round =>
          obtain ⟨j, q, hj, rfl, hallj, hw⟩ := hrel
          have hown3 : Own encB 3 42 wr w.heap.size (.slice A5 ms.length c5) ms := by rw [hw.out]; exact hownW
          have hBx3 : Blk wr g0 42 #[.int .i64 xs[k].run, .int .i64 xs[k].account, .int .i64 xs[k].amount] := by rw [hw.out]; exact hBx
          have hbel3 : Below w.heap.size w wr := by rw [hw.out]; exact below_drewN hbelW q
          have hS3 : SliceOf encB 3 wr wr.heap.size A5 ms := by rw [hw.out]; exact hS5
          have hbs3 := hbel3.size
          have x0 := hBx3.cell 0
          have x1 := hBx3.cell 1
          have x2 := hBx3.cell 2
          simp only [List.getElem?_toArray, List.getElem?_cons_zero, List.getElem?_cons_succ] at x0 x1 x2
          have hlx := hBx3.lt
          by_cases hjl : j < ms.length
          · obtain ⟨b5, off5, rfl, hb5, hc5⟩ := hS3.at_ hjl
            have y0 := hc5 0 _ rfl
            have y1 := hc5 1 _ rfl
            have y2 := hc5 2 _ rfl
            simp only [Nat.add_zero] at y0
            clear hc5
            have HLT := Lib.hid (ltB_eq ms[j] xs[k])
            have hcs : decide (ms[j].run < xs[k].run) = true ∨ (decide (ms[j].run < xs[k].run) = false ∧ (ms[j].run == xs[k].run) = true ∧ decide (ms[j].account < xs[k].account) = true) ∨ (decide (ms[j].run < xs[k].run) = false ∧ (ms[j].run == xs[k].run) = true ∧ decide (ms[j].account < xs[k].account) = false ∧ (ms[j].account == xs[k].account) = true) ∨ (decide (ms[j].run < xs[k].run) = false ∧ (ms[j].run == xs[k].run) = true ∧ decide (ms[j].account < xs[k].account) = false ∧ (ms[j].account == xs[k].account) = false) ∨ (decide (ms[j].run < xs[k].run) = false ∧ (ms[j].run == xs[k].run) = false) := by
              go_light
              by_cases g1 : ms[j].run < xs[k].run
              · exact .inl (by simpa using g1)
              · have g1' : decide (ms[j].run < xs[k].run) = false := by simpa using g1
                by_cases g2 : ms[j].run = xs[k].run
                · have g2' : (ms[j].run == xs[k].run) = true := by simpa using g2
                  by_cases g3 : ms[j].account < xs[k].account
                  · exact .inr (.inl ⟨g1', g2', by simpa using g3⟩)
                  · have g3' : decide (ms[j].account < xs[k].account) = false := by simpa using g3
                    by_cases g4 : ms[j].account = xs[k].account
                    · exact .inr (.inr (.inl ⟨g1', g2', g3', by simpa using g4⟩))
                    · exact .inr (.inr (.inr (.inl ⟨g1', g2', g3', by simpa using g4⟩)))
                · exact .inr (.inr (.inr (.inr ⟨g1', by simpa using g2⟩)))
            rcases hcs with g1 | ⟨g1, g2, g3⟩ | ⟨g1, g2, g3, g4⟩ | ⟨g1, g2, g3, g4⟩ | ⟨g1, g2⟩
            · have HL : Hid (RB.lt (RB.key ms[j]) (RB.key xs[k]) = true) := by rw [Hid, HLT.out, g1]; rfl
              go_wp2_with fail
              go_quiet (fail)
              go_wp2
              go_roundw
              case rel =>
                refine ⟨j + 1, q + nq, by omega, by go_num, fun i hi hij => ?_, by show wr.drewN nq = W.drewN (q + nq); rw [hw.out, World.drewN_drewN]⟩
                rcases Nat.lt_or_ge i j with h3 | h3
                · exact hallj.out i hi h3
                · obtain rfl : i = j := by omega
                  exact HL.out
              case measure => simp [intOf]; omega
            · have HL : Hid (RB.lt (RB.key ms[j]) (RB.key xs[k]) = true) := by
                have e2 : ms[j].run = xs[k].run := by simpa using g2
                rw [Hid, HLT.out, g1, g3, e2]; simp
              go_wp2_with fail
              go_quiet (fail)
              go_wp2
              go_roundw
              case rel =>
                refine ⟨j + 1, q + nq, by omega, by go_num, fun i hi hij => ?_, by show wr.drewN nq = W.drewN (q + nq); rw [hw.out, World.drewN_drewN]⟩
                rcases Nat.lt_or_ge i j with h3 | h3
                · exact hallj.out i hi h3
                · obtain rfl : i = j := by omega
                  exact HL.out
              case measure => simp [intOf]; omega
            · have e2 : ms[j].run = xs[k].run := by simpa using g2
              have e4 : ms[j].account = xs[k].account := by simpa using g4
              have hlf : RB.lt (RB.key ms[j]) (RB.key xs[k]) = false := by rw [HLT.out, g1, g3]; simp
              have HP := Lib.hid (Rec.put_eq (R := RB) hjl hallj.out hlf ((keyB_eq _ _).2 ⟨e2, e4⟩))
              have hset : ms.take j ++ [RB.set xs[k] (RB.amt xs[k] + RB.amt ms[j])] ++ ms.drop (j + 1) = ms.set j ⟨ms[j].run, ms[j].account, ms[j].amount + xs[k].amount⟩ := by
                rw [List.set_eq_take_append_cons_drop, if_pos hjl]
                simp [RB, e2, e4, Int.add_comm]
              have HSE := Lib.hid hset
              obtain ⟨hd1, hd2⟩ := HBD.out _ (List.getElem_mem hjl)
              clear e2 e4 hlf hset
              obtain ⟨g9, cap9, cur9, hv9, hgb9, hBk3, _, _⟩ := hown3.some_ (by omega)
              injection hv9 with hA9 _ hA8
              injection hA9 with hA9
              injection hA9 with hA9 hA7
              subst hA9 hA7 hA8
              have hng : b5 ≠ g0 := by have := hg0n b5 rfl; omega
              have f2 := hBk3.frozen (j * 3 + 2)
              simp only [Nat.zero_add] at y0 y1 y2
              clear hallj HBD
              go_wp2_with fail
              go_quiet (fail)
              go_wp2_with fail
              go_quiet (fail)
              go_wp2_with fail
              go_region
              go_wp2_with fail
              go_roundw
              case rel =>
                refine ⟨k + 1, by omega, by go_num, HALL, ?_, ?_⟩
                · rw [HSN.out, HP.out, HSE.out]
                  exact (hown3.drewN _).set1 encB_len rfl hjl _ 2 _ (by omega) rfl
                · exact bel_set (below_drewN hbel3 _) hgb9 _ _
              case measure => simp [intOf]; omega
            · have hne : ¬ RB.key ms[j] = RB.key xs[k] := fun e => by
                have := ((keyB_eq _ _).1 e).2
                simp [this] at g4
              have hlf : RB.lt (RB.key ms[j]) (RB.key xs[k]) = false := by rw [HLT.out, g1, g3]; simp
              have HP := Lib.hid (Rec.put_ne (R := RB) hjl hallj.out hlf hne)
              clear hne hlf hallj HBD HLT
              go_wp2_with fail
              go_quiet (fail)
              go_wp2_with fail
              go_quiet (fail)
              go_wp2_with (at_builtin; (refine wpList_append_one _ _ 32 ⟨0, 0, 0⟩ _ 24 _ infoB Try.underlying32 (hown3.drewN _) encB_len (by omega) rfl (encB_one _) (by omega) (by omega) (by simp; omega) (by rfl) (by rfl) (by rfl) (by rfl) (by simp) (by rfl) ?_); intro v6 w6 hown6 hg6; obtain ⟨g, cap6, cur6, rfl, hgb, hBk6, hl6, hm6⟩ := hown6.some_ (by simp))
              have hBx6 : Blk w6 g0 42 #[.int .i64 xs[k].run, .int .i64 xs[k].account, .int .i64 xs[k].amount] := Blk.grown (w := wr.drewN _) hBx3 hg6 (fun e => by have := hg0n _ e.symm; omega)
              have hbel6 : Below w.heap.size w w6 := bel_only (below_drewN hbel3 _) hg6 (fun g hg => (hown3.block_lt hg).1)
              rw [show (ms ++ [(⟨0, 0, 0⟩ : BookT)]).length = ms.length + 1 by simp] at hown6 hl6
              have hng : g ≠ g0 := hown6.ne_blk encB_len hBx6 (fun y hy => by
                have : y = ⟨0, 0, 0⟩ := by
                  rcases ms with _ | ⟨m0, ms⟩
                  · simpa using hy.symm
                  · simp at hy
                subst this
                simp [encB]; omega) (by simp)
              have hrel0 : Own encB 3 42 w6 w.heap.size (.slice (some ⟨g, 0, none⟩) (ms.length + 1) cap6) (ms.take ms.length ++ [⟨0, 0, 0⟩] ++ ms.drop ms.length) := by simpa using hown6
              have hg6b : g < w6.heap.size := hBk6.lt
              clear hown6 hg6 hBk6 hown3 hBx3 hbel3
              go_loopw [8] (fun s wr4 => ∃ (m : Nat) (z : BookT), j ≤ m ∧ m ≤ ms.length ∧ s = .int .i64 m ∧ Own encB 3 42 wr4 w.heap.size (.slice (some ⟨g, 0, none⟩) (ms.length + 1) cap6) (ms.take m ++ [z] ++ ms.drop m) ∧ Blk wr4 g0 42 #[.int .i64 xs[k].run, .int .i64 xs[k].account, .int .i64 xs[k].amount] ∧ Below w.heap.size w wr4) (fun s _ => (intOf s).toNat)
              case atStart => exact ⟨ms.length, ⟨0, 0, 0⟩, by omega, by omega, by first | rfl | go_num, hrel0, hBx6, hbel6⟩
              case round =>
                clear hrel0 hBx6 hbel6 hg6b
                obtain ⟨m, z, hm1, hm2, rfl, hown4, hBx4, hbel4⟩ := hrel
                have hbs4 := hbel4.size
                obtain ⟨A4, c4, hv4, hS4, hB4, hlc4, hcm4⟩ := hown4.form2 encB_len
                injection hv4 with hA4 hln4 hcp4
                subst hA4
                clear hln4 hcp4 hB4 hlc4 hcm4
                obtain ⟨g9, cap9, cur9, hv9, _, hBk4, _, _⟩ := hown4.some_ (by simp; omega)
                injection hv9 with hA9
                injection hA9 with hA9
                injection hA9 with hA9 _
                subst hA9
                have hlg := hBk4.lt
                by_cases hmk : j < m
                · by_cases hcon : j < ms.length
                  rotate_left
                  · exfalso; omega
                  obtain ⟨m', rfl⟩ : ∃ m', m = m' + 1 := ⟨m - 1, by omega⟩
                  have hm3 : m' < ms.length := by omega
                  obtain ⟨b9, off9, hA9, _, hc9⟩ := hS4.at_ (i := m') (by simp; omega)
                  injection hA9 with hA9
                  injection hA9 with hA9 hA8
                  subst hA9 hA8
                  have hget : (ms.take (m' + 1) ++ [z] ++ ms.drop (m' + 1))[m']'(by simp; omega) = ms[m'] := by
                    rw [List.getElem_append_left (by simp; omega), List.getElem_append_left (by simp; omega), List.getElem_take]
                  rw [hget] at hc9
                  have y0 := hc9 0 _ rfl
                  have y1 := hc9 1 _ rfl
                  have y2 := hc9 2 _ rfl
                  simp only [Nat.add_zero, Nat.zero_add] at y0 y1 y2
                  have f0 := hBk4.frozen ((m' + 1) * 3)
                  have f1 := hBk4.frozen ((m' + 1) * 3 + 1)
                  have f2 := hBk4.frozen ((m' + 1) * 3 + 2)
                  obtain ⟨b8, off8, hA8, _, hc8⟩ := hS4.at_ (i := m' + 1) (by simp; omega)
                  injection hA8 with hA8
                  injection hA8 with hA8 hA7
                  subst hA8 hA7
                  have q0 := hc8 0 _ rfl
                  have q1 := hc8 1 _ rfl
                  have q2 := hc8 2 _ rfl
                  simp only [Nat.add_zero, Nat.zero_add] at q0 q1 q2
                  have hset := hown4.set3 encB_len (by simp; omega) (j := m' + 1) (by simp; omega) ms[m'] _ _ _ rfl
                  have hlist : (ms.take (m' + 1) ++ [z] ++ ms.drop (m' + 1)).set (m' + 1) ms[m'] = ms.take m' ++ [ms[m']] ++ ms.drop m' := by
                    have e1 : ms.take (m' + 1) = ms.take m' ++ [ms[m']] := List.take_succ_eq_append_getElem hm3
                    have e2 : ms.drop m' = ms[m'] :: ms.drop (m' + 1) := List.drop_eq_getElem_cons hm3
                    have e3 : (ms.take (m' + 1)).length = m' + 1 := by simp; omega
                    rw [List.append_assoc, List.set_append_right _ _ (by omega), e3, Nat.sub_self, List.singleton_append, List.set_cons_zero, e1, e2]
                    try simp
                  rw [hlist] at hset
                  have HSET := Lib.hid hset
                  have hBx5 := ((hBx4.far (p := ⟨g, (m' + 1) * 3, none⟩) (fun e => hng e.symm) (.int .i64 ms[m'].run)).far (p := ⟨g, (m' + 1) * 3 + 1, none⟩) (fun e => hng e.symm) (.int .i64 ms[m'].account)).far (p := ⟨g, (m' + 1) * 3 + 2, none⟩) (fun e => hng e.symm) (.int .i64 ms[m'].amount)
                  have hbel5 := bel_set (bel_set (bel_set hbel4 hgb ((m' + 1) * 3) (.int .i64 ms[m'].run)) hgb ((m' + 1) * 3 + 1) (.int .i64 ms[m'].account)) hgb ((m' + 1) * 3 + 2) (.int .i64 ms[m'].amount)
                  have HBX5 := Lib.hid hBx5
                  have HBEL5 := Lib.hid hbel5
                  clear hset hBx5 hbel5 hBx4 hown4 hS4 hc8 hc9 hlist hbel4 hget
                  go_wp2
                  go_roundw
                  case rel => exact ⟨m', ms[m'], by omega, by omega, by go_num, HSET.out, HBX5.out, HBEL5.out⟩
                  case measure => simp [intOf]
                · obtain rfl : j = m := by omega
                  have f0 := hBk4.frozen ((j) * 3)
                  have f1 := hBk4.frozen ((j) * 3 + 1)
                  have f2 := hBk4.frozen ((j) * 3 + 2)
                  obtain ⟨b8, off8, hA8, _, hc8⟩ := hS4.at_ (i := j) (by simp; omega)
                  injection hA8 with hA8
                  injection hA8 with hA8 hA7
                  subst hA8 hA7
                  have q0 := hc8 0 _ rfl
                  have q1 := hc8 1 _ rfl
                  have q2 := hc8 2 _ rfl
                  simp only [Nat.add_zero, Nat.zero_add] at q0 q1 q2
                  have x0 := hBx4.cell 0
                  have x1 := hBx4.cell 1
                  have x2 := hBx4.cell 2
                  simp only [List.getElem?_toArray, List.getElem?_cons_zero, List.getElem?_cons_succ] at x0 x1 x2
                  have hlx := hBx4.lt
                  have hset := hown4.set3 encB_len (by simp; omega) (j := j) (by simp; omega) xs[k] _ _ _ rfl
                  have hlist : (ms.take (j) ++ [z] ++ ms.drop (j)).set (j) xs[k] = ms.take (j) ++ [xs[k]] ++ ms.drop (j) := by
                    have e3 : (ms.take (j)).length = j := by simp; omega
                    rw [List.append_assoc, List.set_append_right _ _ (by omega), e3, Nat.sub_self, List.singleton_append, List.set_cons_zero]
                    try simp
                  rw [hlist, ← HP.out, ← HSN.out] at hset
                  have HSET := Lib.hid hset
                  have hbel5 := bel_set (bel_set (bel_set hbel4 hgb ((j) * 3) (.int .i64 xs[k].run)) hgb ((j) * 3 + 1) (.int .i64 xs[k].account)) hgb ((j) * 3 + 2) (.int .i64 xs[k].amount)
                  have HBEL5 := Lib.hid hbel5
                  have hkd : decide (((j : Nat) : Int) < ((j : Nat) : Int)) = false := by simp
                  have hkd2 : decide (j < j) = false := by simp
                  clear hset hbel5 hBx4 hown4 hS4 hc8 hlist hbel4
                  go_wp2
                  go_roundw
                  case rel => exact ⟨k + 1, by omega, by go_num, HALL, HSET.out, HBEL5.out⟩
                  case measure => simp [intOf]; omega
            · have hne : ¬ RB.key ms[j] = RB.key xs[k] := fun e => by
                have := ((keyB_eq _ _).1 e).1
                simp [this] at g2
              have hlf : RB.lt (RB.key ms[j]) (RB.key xs[k]) = false := by
                have e2 : ¬ ms[j].run = xs[k].run := by simpa using g2
                rw [HLT.out, g1]; simp [e2]
              have HP := Lib.hid (Rec.put_ne (R := RB) hjl hallj.out hlf hne)
              clear hne hlf hallj HBD HLT
              go_wp2_with fail
              go_quiet (fail)
              go_wp2_with fail
              go_quiet (fail)
              go_wp2_with (at_builtin; (refine wpList_append_one _ _ 32 ⟨0, 0, 0⟩ _ 24 _ infoB Try.underlying32 (hown3.drewN _) encB_len (by omega) rfl (encB_one _) (by omega) (by omega) (by simp; omega) (by rfl) (by rfl) (by rfl) (by rfl) (by simp) (by rfl) ?_); intro v6 w6 hown6 hg6; obtain ⟨g, cap6, cur6, rfl, hgb, hBk6, hl6, hm6⟩ := hown6.some_ (by simp))
              have hBx6 : Blk w6 g0 42 #[.int .i64 xs[k].run, .int .i64 xs[k].account, .int .i64 xs[k].amount] := Blk.grown (w := wr.drewN _) hBx3 hg6 (fun e => by have := hg0n _ e.symm; omega)
              have hbel6 : Below w.heap.size w w6 := bel_only (below_drewN hbel3 _) hg6 (fun g hg => (hown3.block_lt hg).1)
              rw [show (ms ++ [(⟨0, 0, 0⟩ : BookT)]).length = ms.length + 1 by simp] at hown6 hl6
              have hng : g ≠ g0 := hown6.ne_blk encB_len hBx6 (fun y hy => by
                have : y = ⟨0, 0, 0⟩ := by
                  rcases ms with _ | ⟨m0, ms⟩
                  · simpa using hy.symm
                  · simp at hy
                subst this
                simp [encB]; omega) (by simp)
              have hrel0 : Own encB 3 42 w6 w.heap.size (.slice (some ⟨g, 0, none⟩) (ms.length + 1) cap6) (ms.take ms.length ++ [⟨0, 0, 0⟩] ++ ms.drop ms.length) := by simpa using hown6
              have hg6b : g < w6.heap.size := hBk6.lt
              clear hown6 hg6 hBk6 hown3 hBx3 hbel3
              go_loopw [8] (fun s wr4 => ∃ (m : Nat) (z : BookT), j ≤ m ∧ m ≤ ms.length ∧ s = .int .i64 m ∧ Own encB 3 42 wr4 w.heap.size (.slice (some ⟨g, 0, none⟩) (ms.length + 1) cap6) (ms.take m ++ [z] ++ ms.drop m) ∧ Blk wr4 g0 42 #[.int .i64 xs[k].run, .int .i64 xs[k].account, .int .i64 xs[k].amount] ∧ Below w.heap.size w wr4) (fun s _ => (intOf s).toNat)
              case atStart => exact ⟨ms.length, ⟨0, 0, 0⟩, by omega, by omega, by first | rfl | go_num, hrel0, hBx6, hbel6⟩
              case round =>
                clear hrel0 hBx6 hbel6 hg6b
                obtain ⟨m, z, hm1, hm2, rfl, hown4, hBx4, hbel4⟩ := hrel
                have hbs4 := hbel4.size
                obtain ⟨A4, c4, hv4, hS4, hB4, hlc4, hcm4⟩ := hown4.form2 encB_len
                injection hv4 with hA4 hln4 hcp4
                subst hA4
                clear hln4 hcp4 hB4 hlc4 hcm4
                obtain ⟨g9, cap9, cur9, hv9, _, hBk4, _, _⟩ := hown4.some_ (by simp; omega)
                injection hv9 with hA9
                injection hA9 with hA9
                injection hA9 with hA9 _
                subst hA9
                have hlg := hBk4.lt
                by_cases hmk : j < m
                · by_cases hcon : j < ms.length
                  rotate_left
                  · exfalso; omega
                  obtain ⟨m', rfl⟩ : ∃ m', m = m' + 1 := ⟨m - 1, by omega⟩
                  have hm3 : m' < ms.length := by omega
                  obtain ⟨b9, off9, hA9, _, hc9⟩ := hS4.at_ (i := m') (by simp; omega)
                  injection hA9 with hA9
                  injection hA9 with hA9 hA8
                  subst hA9 hA8
                  have hget : (ms.take (m' + 1) ++ [z] ++ ms.drop (m' + 1))[m']'(by simp; omega) = ms[m'] := by
                    rw [List.getElem_append_left (by simp; omega), List.getElem_append_left (by simp; omega), List.getElem_take]
                  rw [hget] at hc9
                  have y0 := hc9 0 _ rfl
                  have y1 := hc9 1 _ rfl
                  have y2 := hc9 2 _ rfl
                  simp only [Nat.add_zero, Nat.zero_add] at y0 y1 y2
                  have f0 := hBk4.frozen ((m' + 1) * 3)
                  have f1 := hBk4.frozen ((m' + 1) * 3 + 1)
                  have f2 := hBk4.frozen ((m' + 1) * 3 + 2)
                  obtain ⟨b8, off8, hA8, _, hc8⟩ := hS4.at_ (i := m' + 1) (by simp; omega)
                  injection hA8 with hA8
                  injection hA8 with hA8 hA7
                  subst hA8 hA7
                  have q0 := hc8 0 _ rfl
                  have q1 := hc8 1 _ rfl
                  have q2 := hc8 2 _ rfl
                  simp only [Nat.add_zero, Nat.zero_add] at q0 q1 q2
                  have hset := hown4.set3 encB_len (by simp; omega) (j := m' + 1) (by simp; omega) ms[m'] _ _ _ rfl
                  have hlist : (ms.take (m' + 1) ++ [z] ++ ms.drop (m' + 1)).set (m' + 1) ms[m'] = ms.take m' ++ [ms[m']] ++ ms.drop m' := by
                    have e1 : ms.take (m' + 1) = ms.take m' ++ [ms[m']] := List.take_succ_eq_append_getElem hm3
                    have e2 : ms.drop m' = ms[m'] :: ms.drop (m' + 1) := List.drop_eq_getElem_cons hm3
                    have e3 : (ms.take (m' + 1)).length = m' + 1 := by simp; omega
                    rw [List.append_assoc, List.set_append_right _ _ (by omega), e3, Nat.sub_self, List.singleton_append, List.set_cons_zero, e1, e2]
                    try simp
                  rw [hlist] at hset
                  have HSET := Lib.hid hset
                  have hBx5 := ((hBx4.far (p := ⟨g, (m' + 1) * 3, none⟩) (fun e => hng e.symm) (.int .i64 ms[m'].run)).far (p := ⟨g, (m' + 1) * 3 + 1, none⟩) (fun e => hng e.symm) (.int .i64 ms[m'].account)).far (p := ⟨g, (m' + 1) * 3 + 2, none⟩) (fun e => hng e.symm) (.int .i64 ms[m'].amount)
                  have hbel5 := bel_set (bel_set (bel_set hbel4 hgb ((m' + 1) * 3) (.int .i64 ms[m'].run)) hgb ((m' + 1) * 3 + 1) (.int .i64 ms[m'].account)) hgb ((m' + 1) * 3 + 2) (.int .i64 ms[m'].amount)
                  have HBX5 := Lib.hid hBx5
                  have HBEL5 := Lib.hid hbel5
                  clear hset hBx5 hbel5 hBx4 hown4 hS4 hc8 hc9 hlist hbel4 hget
                  go_wp2
                  go_roundw
                  case rel => exact ⟨m', ms[m'], by omega, by omega, by go_num, HSET.out, HBX5.out, HBEL5.out⟩
                  case measure => simp [intOf]
                · obtain rfl : j = m := by omega
                  have f0 := hBk4.frozen ((j) * 3)
                  have f1 := hBk4.frozen ((j) * 3 + 1)
                  have f2 := hBk4.frozen ((j) * 3 + 2)
                  obtain ⟨b8, off8, hA8, _, hc8⟩ := hS4.at_ (i := j) (by simp; omega)
                  injection hA8 with hA8
                  injection hA8 with hA8 hA7
                  subst hA8 hA7
                  have q0 := hc8 0 _ rfl
                  have q1 := hc8 1 _ rfl
                  have q2 := hc8 2 _ rfl
                  simp only [Nat.add_zero, Nat.zero_add] at q0 q1 q2
                  have x0 := hBx4.cell 0
                  have x1 := hBx4.cell 1
                  have x2 := hBx4.cell 2
                  simp only [List.getElem?_toArray, List.getElem?_cons_zero, List.getElem?_cons_succ] at x0 x1 x2
                  have hlx := hBx4.lt
                  have hset := hown4.set3 encB_len (by simp; omega) (j := j) (by simp; omega) xs[k] _ _ _ rfl
                  have hlist : (ms.take (j) ++ [z] ++ ms.drop (j)).set (j) xs[k] = ms.take (j) ++ [xs[k]] ++ ms.drop (j) := by
                    have e3 : (ms.take (j)).length = j := by simp; omega
                    rw [List.append_assoc, List.set_append_right _ _ (by omega), e3, Nat.sub_self, List.singleton_append, List.set_cons_zero]
                    try simp
                  rw [hlist, ← HP.out, ← HSN.out] at hset
                  have HSET := Lib.hid hset
                  have hbel5 := bel_set (bel_set (bel_set hbel4 hgb ((j) * 3) (.int .i64 xs[k].run)) hgb ((j) * 3 + 1) (.int .i64 xs[k].account)) hgb ((j) * 3 + 2) (.int .i64 xs[k].amount)
                  have HBEL5 := Lib.hid hbel5
                  have hkd : decide (((j : Nat) : Int) < ((j : Nat) : Int)) = false := by simp
                  have hkd2 : decide (j < j) = false := by simp
                  clear hset hbel5 hBx4 hown4 hS4 hc8 hlist hbel4
                  go_wp2
                  go_roundw
                  case rel => exact ⟨k + 1, by omega, by go_num, HALL, HSET.out, HBEL5.out⟩
                  case measure => simp [intOf]; omega
          · have HP : Hid (RB.put ms xs[k] = ms.take j ++ [xs[k]] ++ ms.drop j) := by
              have e : j = ms.length := by omega
              rw [Hid, e]
              exact Rec.put_end (R := RB) (xs := ms) (e := xs[k]) (fun i hi => hallj.out i hi (by omega))
            have hd0 : decide ((j : Int) < (ms.length : Int)) = false := by simp; omega
            have hd1 : decide (j < ms.length) = false := by simp; omega
            clear hallj HBD
            go_wp2_with fail
            go_quiet (fail)
            go_wp2_with fail
            go_quiet (fail)
            clear hd0 hd1
            go_wp2_with (at_builtin; (refine wpList_append_one _ _ 32 ⟨0, 0, 0⟩ _ 24 _ infoB Try.underlying32 (hown3.drewN _) encB_len (by omega) rfl (encB_one _) (by omega) (by omega) (by simp; omega) (by rfl) (by rfl) (by rfl) (by rfl) (by simp) (by rfl) ?_); intro v6 w6 hown6 hg6; obtain ⟨g, cap6, cur6, rfl, hgb, hBk6, hl6, hm6⟩ := hown6.some_ (by simp))
            have hBx6 : Blk w6 g0 42 #[.int .i64 xs[k].run, .int .i64 xs[k].account, .int .i64 xs[k].amount] := Blk.grown (w := wr.drewN _) hBx3 hg6 (fun e => by have := hg0n _ e.symm; omega)
            have hbel6 : Below w.heap.size w w6 := bel_only (below_drewN hbel3 _) hg6 (fun g hg => (hown3.block_lt hg).1)
            rw [show (ms ++ [(⟨0, 0, 0⟩ : BookT)]).length = ms.length + 1 by simp] at hown6 hl6
            have hng : g ≠ g0 := hown6.ne_blk encB_len hBx6 (fun y hy => by
              have : y = ⟨0, 0, 0⟩ := by
                rcases ms with _ | ⟨m0, ms⟩
                · simpa using hy.symm
                · simp at hy
              subst this
              simp [encB]; omega) (by simp)
            have hrel0 : Own encB 3 42 w6 w.heap.size (.slice (some ⟨g, 0, none⟩) (ms.length + 1) cap6) (ms.take ms.length ++ [⟨0, 0, 0⟩] ++ ms.drop ms.length) := by simpa using hown6
            have hg6b : g < w6.heap.size := hBk6.lt
            clear hown6 hg6 hBk6 hown3 hBx3 hbel3
            go_loopw [8] (fun s wr4 => ∃ (m : Nat) (z : BookT), j ≤ m ∧ m ≤ ms.length ∧ s = .int .i64 m ∧ Own encB 3 42 wr4 w.heap.size (.slice (some ⟨g, 0, none⟩) (ms.length + 1) cap6) (ms.take m ++ [z] ++ ms.drop m) ∧ Blk wr4 g0 42 #[.int .i64 xs[k].run, .int .i64 xs[k].account, .int .i64 xs[k].amount] ∧ Below w.heap.size w wr4) (fun s _ => (intOf s).toNat)
            case atStart => exact ⟨ms.length, ⟨0, 0, 0⟩, by omega, by omega, by first | rfl | go_num, hrel0, hBx6, hbel6⟩
            case round =>
              clear hrel0 hBx6 hbel6 hg6b
              obtain ⟨m, z, hm1, hm2, rfl, hown4, hBx4, hbel4⟩ := hrel
              have hbs4 := hbel4.size
              obtain ⟨A4, c4, hv4, hS4, hB4, hlc4, hcm4⟩ := hown4.form2 encB_len
              injection hv4 with hA4 hln4 hcp4
              subst hA4
              clear hln4 hcp4 hB4 hlc4 hcm4
              obtain ⟨g9, cap9, cur9, hv9, _, hBk4, _, _⟩ := hown4.some_ (by simp; omega)
              injection hv9 with hA9
              injection hA9 with hA9
              injection hA9 with hA9 _
              subst hA9
              have hlg := hBk4.lt
              by_cases hmk : j < m
              · exfalso; omega
              · obtain rfl : j = m := by omega
                have f0 := hBk4.frozen ((j) * 3)
                have f1 := hBk4.frozen ((j) * 3 + 1)
                have f2 := hBk4.frozen ((j) * 3 + 2)
                obtain ⟨b8, off8, hA8, _, hc8⟩ := hS4.at_ (i := j) (by simp; omega)
                injection hA8 with hA8
                injection hA8 with hA8 hA7
                subst hA8 hA7
                have q0 := hc8 0 _ rfl
                have q1 := hc8 1 _ rfl
                have q2 := hc8 2 _ rfl
                simp only [Nat.add_zero, Nat.zero_add] at q0 q1 q2
                have x0 := hBx4.cell 0
                have x1 := hBx4.cell 1
                have x2 := hBx4.cell 2
                simp only [List.getElem?_toArray, List.getElem?_cons_zero, List.getElem?_cons_succ] at x0 x1 x2
                have hlx := hBx4.lt
                have hset := hown4.set3 encB_len (by simp; omega) (j := j) (by simp; omega) xs[k] _ _ _ rfl
                have hlist : (ms.take (j) ++ [z] ++ ms.drop (j)).set (j) xs[k] = ms.take (j) ++ [xs[k]] ++ ms.drop (j) := by
                  have e3 : (ms.take (j)).length = j := by simp; omega
                  rw [List.append_assoc, List.set_append_right _ _ (by omega), e3, Nat.sub_self, List.singleton_append, List.set_cons_zero]
                  try simp
                rw [hlist, ← HP.out, ← HSN.out] at hset
                have HSET := Lib.hid hset
                have hbel5 := bel_set (bel_set (bel_set hbel4 hgb ((j) * 3) (.int .i64 xs[k].run)) hgb ((j) * 3 + 1) (.int .i64 xs[k].account)) hgb ((j) * 3 + 2) (.int .i64 xs[k].amount)
                have HBEL5 := Lib.hid hbel5
                have hkd : decide (((j : Nat) : Int) < ((j : Nat) : Int)) = false := by simp
                have hkd2 : decide (j < j) = false := by simp
                clear hset hbel5 hBx4 hown4 hS4 hc8 hlist hbel4
                go_wp2
                go_roundw
                case rel => exact ⟨k + 1, by omega, by go_num, HALL, HSET.out, HBEL5.out⟩
                case measure => simp [intOf]; omega
      · obtain rfl : k = xs.length := by omega
        have hg0 : decide ((xs.length : Int) < (xs.length : Int)) = false := by simp
        have hg1 : decide (xs.length < xs.length) = false := by simp
        rw [List.take_length] at hown hall
        have hallB : xs.all okB = true := List.all_eq_true.2 hall.out
        have HM := Lib.hid (mErrB_4 (l := xs) (by omega) hallB)
        have HBD := Lib.hid (sums_bd hall.out (by omega))
        have hml : (RB.sums xs).length ≤ 131072 := Nat.le_trans (Rec.sums_length _) (by omega)
        have HRO : Hid (mErrB xs = 0 → mRB xs = (RB.sums xs).filter RB.nz) := mRB_ok
        generalize RB.sums xs = ms at hown HM HBD hml HRO
        obtain ⟨A5, c5, rfl, hS5, hB5, hlc5, hcm5⟩ := hown.form2 encB_len
        obtain ⟨wq, rfl⟩ : ∃ wq : World, wq = wr := ⟨_, rfl⟩
        go_wp2_with fail
        clear hallB hall hk hlt hown hB5
        go_loopw [9, 10] (fun v i wr => ∃ k : Nat, k ≤ ms.length ∧ i = .int .i64 k ∧ Hid (∀ j, (hj : j < ms.length) → j < k → maxN ms[j].amount = true) ∧ Own encB 3 42 wr wq.heap.size v ((ms.take k).filter RB.nz) ∧ Below wq.heap.size wq wr) (fun _ i _ => ms.length - (intOf i).toNat)
        case atStart => exact ⟨0, by omega, rfl, fun j _ hj => absurd hj (by omega), Own.nil_ _ _, Below.refl _ _⟩
        case round =>
          obtain ⟨k, hk, rfl, hallk, hown, hbq⟩ := hrel
          have hbqs := hbq.size
          by_cases hlt : k < ms.length
          · obtain ⟨b, off, rfl, hb, hc⟩ := (hS5.adv hbq).at_ hlt
            have d0 := hc 0 _ rfl
            have d1 := hc 1 _ rfl
            have d2 := hc 2 _ rfl
            simp only [Nat.add_zero] at d0
            clear hc
            by_cases hm : maxN ms[k].amount = true
            rotate_left
            · have hm' : maxN ms[k].amount = false := by simpa using hm
              have HP : Hid (mErrB xs = 4) := by
                have h4 : overB ms = true := List.any_eq_true.2 ⟨ms[k], List.getElem_mem _, by simp [hm']⟩
                rw [Hid, HM.out, h4]; rfl
              clear hm
              go_wp2_with (go_at_call 45; refine (total44_any _ _).mono ?_; rintro e w' ⟨rfl, rfl⟩)
              go_ret2
              exact BPost.fail (mRB_no HP.out (by omega)) HP.out (bel_adv hbel hbq)
            have HN : Hid (∀ j, (hj : j < ms.length) → j < k + 1 → maxN ms[j].amount = true) := by
              intro j hj hjk
              rcases Nat.lt_or_ge j k with h3 | h3
              · exact hallk.out j hj h3
              · obtain rfl : j = k := by omega
                exact hm
            have hfk : ((ms.take k).filter RB.nz).length ≤ 131072 := Nat.le_trans (List.length_filter_le _ _) (by simp; omega)
            by_cases h0 : ms[k].amount = 0
            · have h0' : (ms[k].amount == 0) = true := by simpa using h0
              have h0'' : (ms[k].amount != 0) = false := by simpa using h0
              have HT : Hid ((ms.take (k + 1)).filter RB.nz = (ms.take k).filter RB.nz) := by
                rw [Hid, List.take_succ_eq_append_getElem hlt, List.filter_append]; simp [Rec.nz, RB, h0]
              clear h0
              go_wp2_with (go_at_call 45; refine (total44_any _ _).mono ?_; rintro e w' ⟨rfl, rfl⟩)
              go_roundw
              case rel => exact ⟨k + 1, by omega, by go_num, HN, by rw [HT.out]; exact hown, hbq⟩
              case measure => simp [intOf]; omega
            · have h0' : (ms[k].amount == 0) = false := by simpa using h0
              have h0'' : (ms[k].amount != 0) = true := by simpa using h0
              have HT : Hid ((ms.take (k + 1)).filter RB.nz = (ms.take k).filter RB.nz ++ [ms[k]]) := by
                rw [Hid, List.take_succ_eq_append_getElem hlt, List.filter_append]; simp [Rec.nz, RB, h0]
              have hr7 := fun g hg => (hown.block_lt (g := g) hg).1
              clear h0
              go_wp2_with (first | (go_at_call 45; refine (total44_any _ _).mono ?_; rintro e w' ⟨rfl, rfl⟩) | (at_builtin; (refine wpList_append_one _ _ 32 ⟨ms[k].run, ms[k].account, ms[k].amount⟩ _ 24 _ infoB Try.underlying32 hown encB_len (by omega) rfl (encB_one _) (by omega) (by omega) (by omega) (by rfl) (by rfl) (by rfl) (by rfl) (by simp) (by rfl) ?_); intro v8 w8 hown8 hg8))
              go_roundw
              case rel => exact ⟨k + 1, by omega, by go_num, HN, by rw [HT.out]; exact hown8, bel_only hbq hg8 hr7⟩
              case measure => simp [intOf]; omega
          · rw [List.take_of_length_le (by omega)] at hown
            have HP : Hid (mErrB xs = 0) := by
              have h4 : overB ms = false := by
                rw [overB, List.any_eq_false]
                intro x hx
                obtain ⟨j, hj, rfl⟩ := List.mem_iff_getElem.1 hx
                simp [hallk.out j hj (by omega)]
              rw [Hid, HM.out, h4]; rfl
            obtain ⟨A6, c6, rfl, hS6, hB6, hlc6, hcm6⟩ := hown.form2 encB_len
            go_wp2
            go_ret2
            rw [HP.out, HRO.out HP.out]
            exact ⟨A6, c6, rfl, hS6, hlc6, hcm6, bel_adv hbel hbq⟩

end Go.Proofs.Ytbiajkknpkeeoaa
