/- The walk of payrolllaw44.LedgerMerges: it returns true and turns nothing that was there. Conditions: as stated. -/
import Derived.Test.YtbiajkknpkeeoaaAwake44
import Derived.Test.YtbiajkknpkeeoaaTrial
import Derived.Test.YtbiajkknpkeeoaaGen44
import Derived.Test.YtbiajkknpkeeoaaSame44
namespace Go.Proofs.Ytbiajkknpkeeoaa
open Go.RowKit

set_option maxRecDepth 100000 in
set_option maxHeartbeats 4000000 in
theorem merges44_walk (B A : Option Addr) (lcap cap : Nat) (l : List Int) (xs : List BookT) (w : World) (hI : SliceOf encI 1 w w.heap.size B l) (hIl : l.length ≤ 9223372036854775807) (hIb : ∀ x ∈ l, I64 x)
    (h : SliceOf encB 3 w w.heap.size A xs) (hl : xs.length ≤ 9223372036854775807) :
    Calls Try.prog 5 #[.slice B l.length lcap, .slice A xs.length cap] w fun e w' => e = .returned (.bool true) ∧ Below w.heap.size w w' := by
  by_cases h60 : 60 < xs.length
  · go_enter Try.func5, Try.ntmps5
    go_wp2_with fail
    refine (awake_any _).mono ?_
    rintro e w5 ⟨rfl, hb5⟩
    go_wp2
    go_ret
    exact ⟨rfl, hb5⟩
  go_enter Try.func5, Try.ntmps5
  go_wp2_with fail
  refine (new_any B l lcap _ hI hIl hIb).mono ?_
  rintro e w1 ⟨rfl, hd1, hb1⟩
  go_wp2_with fail
  refine (entriesG_any _ 0 12 _ (by omega) (by omega) hd1).mono ?_
  rintro e w2 ⟨v2, ys, rfl, hyl, hown2, _, hg2⟩
  have hb2 : Below w.heap.size w w2 := bel_only hb1 hg2 (fun g e => by injection e; omega)
  obtain ⟨A2, c2, rfl, hS2, hB2, hlc2, hcm2⟩ := hown2.form2 encB_len
  have hX2 := h.adv hb2
  have hS2' := hS2.more (B' := w2.heap.size) (by first | exact Nat.le_refl _ | omega)
  clear hS2 hB2 hown2 hg2 hd1 hb1 hI
  go_wp2_with fail
  have hbel3 := bel_alloc hb2 (.cells #[.slice A2 ys.length c2, .slice A xs.length cap] 32)
  have hBk := Blk.new w2 32 #[.slice A2 ys.length c2, .slice A xs.length cap]
  have hS3 := hS2'.advA (.cells #[.slice A2 ys.length c2, .slice A xs.length cap] 32)
  have hX3 := hX2.advA (.cells #[.slice A2 ys.length c2, .slice A xs.length cap] 32)
  have hg3 : w2.heap.size < (w2.alloc (.cells #[.slice A2 ys.length c2, .slice A xs.length cap] 32)).heap.size := hBk.lt
  generalize hW3 : w2.alloc (.cells #[.slice A2 ys.length c2, .slice A xs.length cap] 32) = w3 at hbel3 hBk hS3 hX3 hg3 ⊢
  clear hS2' hX2 hb2 hW3
  go_loopw [7] (fun i wr => ∃ k : Nat, k ≤ 2 ∧ i = .int .i64 k ∧ Below w3.heap.size w3 wr) (fun i _ => 2 - (intOf i).toNat)
  case atStart => exact ⟨0, by omega, rfl, Below.refl _ _⟩
  case round =>
    obtain ⟨k, hk, rfl, hbel⟩ := hrel
    have hbs := hbel.size
    by_cases hlt : k < 2
    · obtain ⟨Y, c, zs, hzl, hcell, hZ⟩ : ∃ (Y : Option Addr) (c : Nat) (zs : List BookT), zs.length ≤ 60 ∧ wr.cell? ⟨w2.heap.size, k, none⟩ = some (.slice Y zs.length c) ∧ SliceOf encB 3 wr wr.heap.size Y zs := by
        have hBr := hBk.adv hbel
        match k, hlt with
        | 0, _ => exact ⟨A2, c2, ys, by omega, (hBr.cell 0).trans rfl, hS3.adv hbel⟩
        | 1, _ => exact ⟨A, cap, xs, by omega, (hBr.cell 1).trans rfl, hX3.adv hbel⟩
      have hgr : w2.heap.size < wr.heap.size := by omega
      clear hS3 hX3 hBk
      go_wp2_with fail
      refine (mergeB_any Y c zs _ hZ (by omega)).mono ?_
      rintro e w4 ⟨A4, c4, rfl, hS4, hlc4, hcm4, hb4⟩
      have hcell4 := (hb4.cell (p := ⟨w2.heap.size, k, none⟩) hgr).trans hcell
      have hgr4 := Nat.lt_of_lt_of_le hgr hb4.size
      go_wp2_with fail
      refine (mergeB44_any Y c zs _ (hZ.adv hb4) (by omega)).mono ?_
      rintro e w5 ⟨A5, c5, rfl, hS5, hlc5, hcm5, hb5⟩
      have hcell5 := (hb5.cell (p := ⟨w2.heap.size, k, none⟩) hgr4).trans hcell4
      have hgr5 := Nat.lt_of_lt_of_le hgr4 hb5.size
      clear hcell4
      go_wp2_with fail
      refine (trial_any Y c zs _ ((hZ.adv hb4).adv hb5) (by omega)).mono ?_
      rintro e w6 ⟨A6, c6, rfl, hS6, hlc6, hcm6, hb6⟩
      have hcell6 := (hb6.cell (p := ⟨w2.heap.size, k, none⟩) hgr5).trans hcell5
      have hgr6 := Nat.lt_of_lt_of_le hgr5 hb6.size
      clear hcell5
      go_wp2_with fail
      refine (trial44_any Y c zs _ (((hZ.adv hb4).adv hb5).adv hb6) (by omega)).mono ?_
      rintro e w7 ⟨A7, c7, rfl, hS7, hlc7, hcm7, hb7⟩
      have hcell7 := (hb7.cell (p := ⟨w2.heap.size, k, none⟩) hgr6).trans hcell6
      have hgr7 := Nat.lt_of_lt_of_le hgr6 hb7.size
      have hZ7 := ((((hZ.adv hb4).adv hb5).adv hb6).adv hb7)
      have hT4 := ((hS4.adv hb5).adv hb6).adv hb7
      have hT5 := (hS5.adv hb6).adv hb7
      have hT6 := hS6.adv hb7
      have hbel7 := bel_adv (bel_adv (bel_adv (bel_adv hbel hb4) hb5) hb6) hb7
      have hm1 := mRB_len zs
      have hm2 := mRB_len (zs.map zeroRun)
      clear hcell6 hcell hZ hS4 hS5 hS6 hb4 hb5 hb6 hb7 hbel
      generalize mErrB zs = e1 at *
      generalize mErrB (zs.map zeroRun) = e2 at *
      generalize mRB zs = m1 at *
      generalize mRB (zs.map zeroRun) = m2 at *
      go_wp2_with fail
      have n1 : (e1 != e1) = false := by simp
      have n2 : (e2 != e2) = false := by simp
      have n3 : (balB zs == balB zs) = true := by simp
      have e0 := Bw.cell (w := w7) (a := ⟨w2.heap.size, k, none⟩) (by exact hgr7) hcell7
      have HS1 := Lib.hid (fun p : Bw w7 => Bw.call p (same44_bw A4 A5 c4 c5 m1 _ (hT4.adv p.h) (hT5.adv p.h) (by omega)))
      have HS2 := Lib.hid (fun p : Bw w7 => Bw.call p (same44_bw A6 A7 c6 c7 m2 _ (hT6.adv p.h) (hS7.adv p.h) (by omega)))
      have HB1 := Lib.hid (fun p : Bw w7 => Bw.call p (balanced_any Y c zs _ (hZ7.adv p.h) (by omega)))
      have HB2 := Lib.hid (fun p : Bw w7 => Bw.call p (balanced44_any Y c zs _ (hZ7.adv p.h) (by omega)))
      clear hT4 hT5 hT6 hS7 hZ7 hcell7
      generalize balB zs = bb at HB1 HB2 n3 ⊢
      refine wp_region_below (by kernel_rfl) (by kernel_rfl) ?_
      repeat (first | go_big_quiet_step ((first | with_reducible exact HS1.out _ | with_reducible exact HS2.out _ | with_reducible exact HB1.out _ | with_reducible exact HB2.out _)) | quiet_step ((first | with_reducible exact HS1.out _ | with_reducible exact HS2.out _ | with_reducible exact HB1.out _ | with_reducible exact HB2.out _)))
      refine wpQuiet_nil ?_
      intro W2 hw'
      obtain ⟨⟨W9, hW2⟩, hw''⟩ := hw'
      subst hw''
      have hbel9 := bel_adv hbel7 hW2
      clear HS1 HS2 HB1 HB2 e0 hW2 hbel7
      go_wp2
      go_roundw
      case rel => exact ⟨k + 1, by omega, by go_num, hbel9⟩
      case measure => simp [intOf]; omega
    · obtain rfl : k = 2 := by omega
      go_wp2_with fail
      refine (awake_any _).mono ?_
      rintro e w5 ⟨rfl, hb5⟩
      go_wp2
      go_ret
      exact ⟨rfl, bel_adv (bel_adv hbel3 hbel) hb5⟩

end Go.Proofs.Ytbiajkknpkeeoaa
