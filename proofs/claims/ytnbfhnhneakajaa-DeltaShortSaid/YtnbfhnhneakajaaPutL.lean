/- Contract of payrollref34.put: the plain function 'RL.put'. Conditions: amounts far from the ends of int. -/
import Derived.Test.YtnbfhnhneakajaaLine2
import Derived.Test.YtnbfhnhneakajaaRec2
import Derived.Deep.RegionWith
import Derived.Deep.DeepCutAuto
import Derived.RegionTactic
namespace Go.Proofs.Ytnbfhnhneakajaa
open Go.RowKit

/-- What the test of the loop leaves. -/
def PutCut (w wr : World) (e : LineT) (v : Value) (ys : List LineT) (b : Bool) (s : Value) (wx : World) : Prop := s = .bool b ∧ Own encL 3 56 wx (w.heap.size + 1) v ys ∧ Blk wx w.heap.size 56 #[.int .i64 e.kind, .string e.code, .int .i64 e.amount] ∧ Below w.heap.size w wx ∧ Below wr.heap.size wr wx
theorem key_ne_kind {x y : LineT} (h : ¬ x.kind = y.kind) : ¬ RL.key x = RL.key y := fun e => h (by injection e)
theorem key_ne_code {x y : LineT} (h : ¬ (x.code.toList == y.code.toList) = true) : ¬ RL.key x = RL.key y := fun e => h (by
  injection e with _ e
  rw [ByteArray.toList_eq, ByteArray.toList_eq, e]; simp)
theorem key_eqL {x y : LineT} (h1 : x.kind = y.kind) (h2 : (x.code.toList == y.code.toList) = true) : RL.key x = RL.key y := by
  rw [ByteArray.toList_eq, ByteArray.toList_eq] at h2
  show (x.kind, x.code.data.toList) = (y.kind, y.code.data.toList)
  rw [h1, (by simpa using h2 : x.code.data.toList = y.code.data.toList)]

set_option maxRecDepth 100000 in
set_option maxHeartbeats 4000000 in
theorem putL_any (A : Option Addr) (cap : Nat) (xs : List LineT) (e : LineT) (w : World) (h : SliceOf encL 3 w w.heap.size A xs) (hc : xs.length ≤ cap) (hcm : cap ≤ maxLen) (hl : xs.length ≤ 1000000)
    (hx : ∀ x ∈ xs, -1000000000000000000 ≤ x.amount ∧ x.amount ≤ 1000000000000000000) (he1 : -1000000000000000 ≤ e.amount) (he2 : e.amount ≤ 1000000000000000) :
    Calls Try.prog 42 #[.slice A xs.length cap, .agg #[.int .i64 e.kind, .string e.code, .int .i64 e.amount]] w fun r w' => ∃ v, r = .returned v ∧ Own encL 3 56 w' w.heap.size v (RL.put xs e) ∧ Below w.heap.size w w' := by
  have HX := Lib.hid hx; clear hx
  have hcm' : cap ≤ 9223372036854775807 := hcm
  clear hcm
  go_enter Try.func42, Try.ntmps42
  go_wp2
  go_loopw [5, 6] (fun v i wr => ∃ k : Nat, k ≤ xs.length ∧ i = .int .i64 k ∧ Hid (∀ j, (hj : j < xs.length) → j < k → lessL xs[j] e = true) ∧ Own encL 3 56 wr (w.heap.size + 1) v (xs.take k) ∧ Blk wr w.heap.size 56 #[.int .i64 e.kind, .string e.code, .int .i64 e.amount] ∧ Below w.heap.size w wr) (fun _ i _ => xs.length - (intOf i).toNat)
  case atStart => exact ⟨0, by omega, rfl, fun j _ hj => absurd hj (by omega), by simpa using Own.nil_ _ _, Blk.new _ _ _, below_new _ _⟩
  case round =>
    obtain ⟨k, hk, rfl, hall, hown, hblk, hbel⟩ := hrel
    have hsz := hblk.lt
    go_upto_region 3 with fail
    go_cut [18] (fun s wx => PutCut w wr e u5 (xs.take k) (if h : k < xs.length then lessL xs[k] e else false) s wx)
    case first =>
      by_cases hlt : k < xs.length
      · obtain ⟨b, off, rfl, hb, hcell⟩ := (h.below hbel).at_ hlt
        have hbw : b < wr.heap.size := by have := hbel.size; omega
        have c0 := Bw.cell (w := wr) (a := ⟨b, off + k * 3 + 0, none⟩) hbw (hcell 0 _ rfl)
        have c1 := Bw.cell (w := wr) (a := ⟨b, off + k * 3 + 1, none⟩) hbw (hcell 1 _ rfl)
        have c2 := Bw.cell (w := wr) (a := ⟨b, off + k * 3 + 2, none⟩) hbw (hcell 2 _ rfl)
        have e0 := Bw.cell (w := wr) (a := ⟨w.heap.size, 0, none⟩) hsz (hblk.cell 0)
        have e1 := Bw.cell (w := wr) (a := ⟨w.heap.size, 1, none⟩) hsz (hblk.cell 1)
        have e2 := Bw.cell (w := wr) (a := ⟨w.heap.size, 2, none⟩) hsz (hblk.cell 2)
        simp only [Nat.add_zero] at c0
        have hlt' : (k : Int) < (xs.length : Int) := by omega
        have HC : Hid ((if h : k < xs.length then lessL xs[k] e else false) = lessL xs[k] e) := by rw [Hid, dif_pos hlt]
        clear hcell
        refine wp_region_below (by kernel_rfl) (by kernel_rfl) ?_
        repeat (first | go_big_quiet_step ((exact Bw.call _ (less32_any xs[k] e _))) | quiet_step ((exact Bw.call _ (less32_any xs[k] e _))))
        refine wpQuiet_nil ?_
        intro W2 hw'
        obtain ⟨⟨W9, hW2⟩, hw''⟩ := hw'
        subst hw''
        go_wp2_with fail
        go_meet
        exact ⟨by rw [HC.out], hown.adv hW2, hblk.adv hW2, bel_adv hbel hW2, hW2⟩
      · have hg0 : decide ((k : Int) < (xs.length : Int)) = false := by simp; omega
        have hg1 : decide (k < xs.length) = false := by simp; omega
        have HC : Hid ((if h : k < xs.length then lessL xs[k] e else false) = false) := by rw [Hid, dif_neg hlt]
        go_quiet (fail)
        go_wp2_with fail
        go_meet
        exact ⟨by rw [HC.out], hown.drewN _, hblk.drewN _, below_drewN hbel _, below_drewN (Below.refl _ _) _⟩
    case rest =>
      clear hown hblk hbel hsz
      obtain ⟨rfl, hown, hblk, hbel, hbwr⟩ := hcut
      have hsz := hblk.lt
      have e0 := hblk.cell 0
      have e1 := hblk.cell 1
      have e2 := hblk.cell 2
      simp only [List.getElem?_toArray, List.getElem?_cons_zero, List.getElem?_cons_succ] at e0 e1 e2
      have f2 := hblk.frozen 2
      by_cases hlt : k < xs.length
      · rw [dif_pos hlt]
        obtain ⟨b, off, hA, hb, hcell⟩ := (h.below hbel).at_ hlt
        have c0 := hcell 0 _ rfl
        have c1 := hcell 1 _ rfl
        have c2 := hcell 2 _ rfl
        simp only [Nat.add_zero] at c0
        clear hcell
        subst hA
        by_cases hls : lessL xs[k] e = true
        · have HLS := Lib.hid hls
          rw [hls]
          clear hls
          go_wp2_with (at_builtin; (refine wpList_append_one _ _ 23 ⟨xs[k].kind, xs[k].code, xs[k].amount⟩ _ 32 _ infoL Try.underlying23 hown encL_len (by omega) rfl (encL_one _) (by simp; omega) (by omega) (by omega) (by rfl) (by rfl) (by rfl) (by rfl) (by simp) (by rfl) ?_); intro v2 w6 hown6 hg6)
          go_roundw
          case rel =>
            have hr := fun g hg => (hown.block_lt (g := g) hg).1
            have hfin : ∃ k' : Nat, k' ≤ xs.length ∧ Value.int .i64 ((k : Int) + 1) = .int .i64 k' ∧ Hid (∀ j, (hj : j < xs.length) → j < k' → lessL xs[j] e = true) ∧ Own encL 3 56 w6 (w.heap.size + 1) v2 (xs.take k') ∧ Blk w6 w.heap.size 56 #[.int .i64 e.kind, .string e.code, .int .i64 e.amount] ∧ Below w.heap.size w w6 := by
              refine ⟨k + 1, by omega, by go_num, fun j hj hjk => ?_, ?_, hblk.grown hg6 (fun e => by have := hr _ e.symm; omega), bel_only hbel hg6 (fun g hg => by have := hr g hg; omega)⟩
              · rcases Nat.lt_or_ge j k with h1 | h1
                · exact hall.out j hj h1
                · obtain rfl : j = k := by omega
                  exact HLS.out
              · rw [List.take_succ_eq_append_getElem hlt]
                exact hown6
            first | exact hfin | ((repeat apply Exists.intro); exact ⟨hfin, rfl⟩)
          case measure => simp [intOf]; omega
        · have hls' : lessL xs[k] e = false := by simpa using hls
          have HLS := Lib.hid hls'
          rw [hls']
          clear hls hls'
          by_cases heq : RL.key xs[k] = RL.key e
          · have HP := Lib.hid (Rec.put_eq hlt hall.out HLS.out heq)
            have q1 : (xs[k].kind == e.kind) = true := by injection heq with q1 _; simpa using q1
            have q2 : (xs[k].code.toList == e.code.toList) = true := by injection heq with _ q2; rw [ByteArray.toList_eq, ByteArray.toList_eq]; simpa using q2
            have hxk := HX.out _ (List.getElem_mem hlt)
            obtain ⟨hx1, hx2⟩ := hxk
            have hlt' : (k : Int) < (xs.length : Int) := by omega
            clear heq
            go_wp2
            go_quiet (fail)
            go_wp2
            go_region
            generalize hW : World.setCell (World.drewN wc _) _ _ = W
            have hBW : Blk W w.heap.size 56 #[.int .i64 e.kind, .string e.code, .int .i64 (e.amount + xs[k].amount)] := by
              rw [← hW]; simpa using (hblk.drewN _).set_ 2 (.int .i64 (e.amount + xs[k].amount))
            have hownW : Own encL 3 56 W (w.heap.size + 1) u5 (xs.take k) := by
              rw [← hW]; exact (hown.drewN _).setCell (p := ⟨w.heap.size, 2, none⟩) (fun g hg => by have := (hown.block_lt hg).1; show g ≠ w.heap.size; omega) _
            have hbelW : Below w.heap.size w W := by rw [← hW]; exact bel_set (below_drewN hbel _) (Nat.le_refl _) 2 _
            clear hW
            have hsW := hBW.lt
            have a0 := hBW.cell 0
            have a1 := hBW.cell 1
            have a2 := hBW.cell 2
            simp only [List.getElem?_toArray, List.getElem?_cons_zero, List.getElem?_cons_succ] at a0 a1 a2
            have hr := fun g hg => (hownW.block_lt (g := g) hg).1
            have HS := Lib.hid h
            have hk1 : ((k : Int) + 1) ≤ (cap : Int) := by omega
            clear c0 c1 c2 e0 e1 e2 f2 hblk hown hbel h hbwr
            go_upto_region 10 with (at_builtin; (refine wpList_append_one _ _ 23 ⟨e.kind, e.code, e.amount + xs[k].amount⟩ _ 32 _ infoL Try.underlying23 hownW encL_len (by omega) rfl (encL_one _) (by simp; omega) (by omega) (by omega) (by rfl) (by rfl) (by rfl) (by rfl) (by simp) (by rfl) ?_); intro v2 w6 hown6 hg6)
            have hbelW6 : Below w.heap.size w w6 := bel_only hbelW hg6 (fun g hg => by have := hr g hg; omega)
            have hs6 : w.heap.size + 1 ≤ w6.heap.size := by have := hg6.size; omega
            have hr6 := fun g hg => (hown6.block_lt (g := g) hg).1
            rcases Nat.lt_or_ge (k + 1) cap with hcap | hcap
            · have hcut := (HS.out.below hbelW6).cut (i := k + 1) (cap := cap) (by omega) (by omega)
              rw [if_neg (by omega)] at hcut
              simp only [Option.map_some, Addr.add, show ¬ (k + 1) * 3 = 0 by omega, if_false] at hcut
              go_wp2_with (at_builtin; (refine wpList_append_list (ys := xs.drop (k + 1)) _ _ 23 _ 32 _ infoL Try.underlying23 hown6 hcut encL_len (by omega) rfl encL_one (by simp; omega) (by omega) hs6 (by rfl) (by rfl) (by rfl) (by rfl) (by simp) ?_); intro v3 w7 hown7 hg7)
              go_ret
              refine ⟨v3, rfl, ?_, bel_only hbelW6 hg7 (fun g hg => by have := hr6 g hg; omega)⟩
              rw [HP.out]
              exact hown7.weaken (by omega)
            · have hnil : xs.drop (k + 1) = [] := List.drop_eq_nil_of_le (by omega)
              have HN := Lib.hid hnil
              clear hnil
              obtain rfl : cap = k + 1 := by omega
              go_wp2_with (at_builtin; (refine wpList_append_list (B := 0) (ys := []) _ _ 23 _ 32 _ infoL Try.underlying23 hown6 SliceOf.nil_ encL_len (by omega) rfl encL_one (by simp <;> omega) (by omega) hs6 (by rfl) (by rfl) (by rfl) (by rfl) (by simp <;> omega) ?_); intro v3 w7 hown7 hg7)
              go_ret
              refine ⟨v3, rfl, ?_, bel_only hbelW6 hg7 (fun g hg => by have := hr6 g hg; omega)⟩
              rw [HP.out, HN.out]
              exact hown7.weaken (by omega)
          · have HP := Lib.hid (Rec.put_ne hlt hall.out HLS.out heq)
            have hlt' : (k : Int) < (xs.length : Int) := by omega
            have HEQ := Lib.hid heq
            clear heq
            rcases q1 : (xs[k].kind == e.kind) with _ | _
            rotate_left
            · have q2 : (xs[k].code.toList == e.code.toList) = false := by
                cases hh : (xs[k].code.toList == e.code.toList)
                · rfl
                · exact absurd (key_eqL (by simpa using q1) hh) HEQ.out
              go_wp2
              go_quiet (fail)
              go_upto_region 10 with (at_builtin; (refine wpList_append_one _ _ 23 e _ 32 _ infoL Try.underlying23 (hown.drewN _) encL_len (by omega) rfl (encL_one _) (by simp; omega) (by omega) (by simp; omega) (by rfl) (by rfl) (by rfl) (by rfl) (by simp) (by rfl) ?_); intro v2 w6 hown6 hg6)
              have hr := fun g hg => (hown.block_lt (g := g) hg).1
              have hs6 : w.heap.size + 1 ≤ w6.heap.size := by have := hg6.size; simp at this; omega
              have hbelW6 : Below w.heap.size w w6 := bel_only (below_drewN hbel _) hg6 (fun g hg => by have := hr g hg; omega)
              have hr6 := fun g hg => (hown6.block_lt (g := g) hg).1
              have hcut := (h.below hbelW6).cut (i := k) (cap := cap) (by omega) (by omega)
              rw [if_neg (by omega)] at hcut
              have hadd : (⟨b, off, none⟩ : Addr).add (k * 3) = ⟨b, off + k * 3, none⟩ := by unfold Addr.add; split <;> simp_all
              simp only [Option.map_some, hadd] at hcut
              have hkc : ¬ cap = k := by omega
              clear c0 c1 c2 e0 e1 e2 f2 hblk hown hbel h hadd hbwr
              go_wp2_with (at_builtin; (refine wpList_append_list (ys := xs.drop k) _ _ 23 _ 32 _ infoL Try.underlying23 hown6 hcut encL_len (by omega) rfl encL_one (by simp; omega) (by omega) hs6 (by rfl) (by rfl) (by rfl) (by rfl) (by simp) ?_); intro v3 w7 hown7 hg7)
              go_ret
              refine ⟨v3, rfl, ?_, bel_only hbelW6 hg7 (fun g hg => by have := hr6 g hg; omega)⟩
              rw [HP.out]
              exact hown7.weaken (by omega)
            · go_wp2
              go_quiet (fail)
              go_upto_region 10 with (at_builtin; (refine wpList_append_one _ _ 23 e _ 32 _ infoL Try.underlying23 (hown.drewN _) encL_len (by omega) rfl (encL_one _) (by simp; omega) (by omega) (by simp; omega) (by rfl) (by rfl) (by rfl) (by rfl) (by simp) (by rfl) ?_); intro v2 w6 hown6 hg6)
              have hr := fun g hg => (hown.block_lt (g := g) hg).1
              have hs6 : w.heap.size + 1 ≤ w6.heap.size := by have := hg6.size; simp at this; omega
              have hbelW6 : Below w.heap.size w w6 := bel_only (below_drewN hbel _) hg6 (fun g hg => by have := hr g hg; omega)
              have hr6 := fun g hg => (hown6.block_lt (g := g) hg).1
              have hcut := (h.below hbelW6).cut (i := k) (cap := cap) (by omega) (by omega)
              rw [if_neg (by omega)] at hcut
              have hadd : (⟨b, off, none⟩ : Addr).add (k * 3) = ⟨b, off + k * 3, none⟩ := by unfold Addr.add; split <;> simp_all
              simp only [Option.map_some, hadd] at hcut
              have hkc : ¬ cap = k := by omega
              clear c0 c1 c2 e0 e1 e2 f2 hblk hown hbel h hadd hbwr
              go_wp2_with (at_builtin; (refine wpList_append_list (ys := xs.drop k) _ _ 23 _ 32 _ infoL Try.underlying23 hown6 hcut encL_len (by omega) rfl encL_one (by simp; omega) (by omega) hs6 (by rfl) (by rfl) (by rfl) (by rfl) (by simp) ?_); intro v3 w7 hown7 hg7)
              go_ret
              refine ⟨v3, rfl, ?_, bel_only hbelW6 hg7 (fun g hg => by have := hr6 g hg; omega)⟩
              rw [HP.out]
              exact hown7.weaken (by omega)
      · rw [dif_neg hlt]
        have HP := Lib.hid (Rec.put_end (R := RL) (xs := xs) (e := e) (fun j hj => hall.out j hj (by omega)))
        obtain rfl : k = xs.length := by omega
        have hg0 : decide ((xs.length : Int) < (xs.length : Int)) = false := by simp
        have hg1 : decide (xs.length < xs.length) = false := by simp
        go_wp2
        go_quiet (fail)
        go_upto_region 10 with (at_builtin; (refine wpList_append_one _ _ 23 e _ 32 _ infoL Try.underlying23 (hown.drewN _) encL_len (by omega) rfl (encL_one _) (by simp; omega) (by omega) (by simp; omega) (by rfl) (by rfl) (by rfl) (by rfl) (by simp) (by rfl) ?_); intro v2 w6 hown6 hg6)
        have hr := fun g hg => (hown.block_lt (g := g) hg).1
        have hs6 : w.heap.size + 1 ≤ w6.heap.size := by have := hg6.size; simp at this; omega
        have hbelW6 : Below w.heap.size w w6 := bel_only (below_drewN hbel _) hg6 (fun g hg => by have := hr g hg; omega)
        have hr6 := fun g hg => (hown6.block_lt (g := g) hg).1
        clear e0 e1 e2 f2 hblk hown hbel h hbwr
        go_wp2_with (at_builtin; (refine wpList_append_list (B := 0) (ys := []) _ _ 23 _ 32 _ infoL Try.underlying23 hown6 SliceOf.nil_ encL_len (by omega) rfl encL_one (by simp <;> omega) (by omega) hs6 (by rfl) (by rfl) (by rfl) (by rfl) (by simp) ?_); intro v3 w7 hown7 hg7)
        all_goals
          go_ret
          refine ⟨v3, rfl, ?_, bel_only hbelW6 hg7 (fun g hg => by have := hr6 g hg; omega)⟩
          rw [HP.out]
          simpa using hown7.weaken (by omega)

end Go.Proofs.Ytnbfhnhneakajaa
