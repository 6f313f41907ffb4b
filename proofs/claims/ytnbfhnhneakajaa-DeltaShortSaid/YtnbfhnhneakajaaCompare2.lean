/- Contract of payslip.Compare: it hands back 'cR' and 'cErr'. Conditions: as stated. -/
import Derived.Test.YtnbfhnhneakajaaCompare
namespace Go.Proofs.Ytnbfhnhneakajaa
open Go.RowKit Go.Sort Go.Shelf Go.Maps Go.WideMaps Go.WideElems Go.ChangeMaps

set_option maxRecDepth 100000 in
set_option maxHeartbeats 4000000 in
theorem compareP_any (A B : Option Addr) (c d : Nat) (xs ys : List LineT) (w : World) (h : SliceOf encL 3 w w.heap.size A xs) (hz : ∀ x ∈ xs, x.code.size ≤ maxLen) (hl : xs.length ≤ 9223372036854775806)
    (hy : SliceOf encL 3 w w.heap.size B ys) (hzy : ∀ x ∈ ys, x.code.size ≤ maxLen) (hly : ys.length ≤ 9223372036854775806) :
    Calls Try.prog 35 #[.slice A xs.length c, .slice B ys.length d] w (LinesPost (cR xs ys) (cErr xs ys) w) := by
  have HZ := Lib.hid hz; clear hz
  have HZY := Lib.hid hzy; clear hzy
  have hmm := @run_makeMap Try.prog
  go_enter Try.func35, Try.ntmps35
  go_wp2_with fail
  refine (mergeP_any A c xs _ h HZ.out (by omega)).mono ?_
  rintro e w1 ⟨A1, c1, rfl, hS1, hc1, hcm1, hb1⟩
  by_cases h0 : mErr xs = 0
  · have H0 := Lib.hid h0
    rw [h0]
    clear h0
    go_wp2_with fail
    refine (mergeP_any B d ys _ (hy.adv hb1) HZY.out (by omega)).mono ?_
    rintro e w2 ⟨A2, c2, rfl, hS2, hc2, hcm2, hb2⟩
    have hbel2 := bel_adv hb1 hb2
    by_cases h1 : mErr ys = 0
    · have H1 := Lib.hid h1
      rw [h1]
      clear h1
      have HE := Lib.hid (cErr_ok H0.out H1.out)
      have HR : Hid (cErr xs ys = 0 → cR xs ys = (cmpL (mR xs) (mR ys)).filter RL.nz) := fun h => by rw [cR, if_pos h]
      have HXF : Hid (∀ x ∈ mR xs, formB x = true) := fun x hx => mR_form hx
      have HYF : Hid (∀ x ∈ mR ys, formB x = true) := fun x hx => mR_form hx
      have HZX := Lib.hid (mR_size HZ.out)
      have HZ2 := Lib.hid (mR_size HZY.out)
      have HSL := Lib.hid (cmpL_facts (x := mR xs) (mR_sorted ys))
      have hXl := mR_len xs
      have hYl := mR_len ys
      have hX := hS1.adv hb2
      generalize hXX : mR xs = X at *
      generalize hYY : mR ys = Y at *
      clear hXX hYY hS1 h hy hb1 hb2
      go_wp2
      have hmap0 : (w2.alloc (.map #[] 0)).ownsMap Try.prog 79 (plainElem (H := Unit) Try.prog 3) w2.heap.size 0 (.map []) := World.ownsMap_made _ _ _ _
      have hbel0 : Below w2.heap.size w2 (w2.alloc (.map #[] 0)) := below_new _ _
      have hD0 : MapG litT goodT (.map []) (RL.has (X.take 0)) (fun c => - RL.tot (X.take 0) c) := by
        have e2 : (fun c => - RL.tot (X.take 0) c) = fun _ => 0 := by funext c; simp [Rec.tot]
        rw [e2]; exact MapG.empty
      go_loopw [33] (fun i wr => ∃ (k : Nat) (D : DataW Unit), k ≤ X.length ∧ i = .int .i64 k ∧ wr.ownsMap Try.prog 79 (plainElem (H := Unit) Try.prog 3) w2.heap.size k D ∧ MapG litT goodT D (RL.has (X.take k)) (fun c => - RL.tot (X.take k) c) ∧ Below w2.heap.size w2 wr) (fun i _ => X.length - (intOf i).toNat)
      case atStart => exact ⟨0, .map [], by omega, rfl, hmap0, hD0, hbel0⟩
      case round =>
        clear hmap0 hbel0 hD0
        obtain ⟨k, D, hk, rfl, hown, hD, hbel⟩ := hrel
        have hbs := hbel.size
        have hml := hown.lt
        by_cases hlt : k < X.length
        · obtain ⟨b, off, rfl, hb, hc⟩ := (hX.below hbel).at_ hlt
          have c0 := hc 0 _ rfl
          have c1 := hc 1 _ rfl
          have c2 := hc 2 _ rfl
          simp only [Nat.add_zero] at c0
          clear hc
          have hzk := HZX.out _ (List.getElem_mem hlt)
          have hf := HXF.out _ (List.getElem_mem hlt)
          obtain ⟨ha1, ha2⟩ := form_amt hf
          have hgd := good_of hzk hf
          have hB1 := Blk.new wr 56 #[.int .i64 X[k].kind, .string X[k].code, .int .i64 X[k].amount]
          have hown1 := hown.alloc (Obj.cells #[.int .i64 X[k].kind, .string X[k].code, .int .i64 X[k].amount] 56)
          have hbel1 := bel_alloc hbel (Obj.cells #[.int .i64 X[k].kind, .string X[k].code, .int .i64 X[k].amount] 56)
          have hTb := Rec.tot_bd (R := RL) (X.take k) (RL.key X[k]) 1000000000000 (by omega) (fun x hx => form_amt (HXF.out x (List.mem_of_mem_take hx)))
          have hTl : (X.take k).length ≤ 65536 := by simp; omega
          have hT1 : -200000000000000000 ≤ - RL.tot (X.take k) (RL.key X[k]) := by omega
          have hT2 : - RL.tot (X.take k) (RL.key X[k]) ≤ 200000000000000000 := by omega
          have hkey : keyOf Try.prog 79 (.agg #[.int .i64 X[k].kind, .string X[k].code]) = some (litT (RL.key X[k])) := keyT _ _ hgd
          obtain ⟨c, st, w3, hlk, hat, hwc, hme, hlk3, hg3, hst⟩ := entry_own lawT Try.underlying77 Try.underlying3 zeroI hown1.drew (by unfold maxLen; omega) hD.isMap hkey
          obtain rfl : c = - RL.tot (X.take k) (RL.key X[k]) := by
            have h1 := hD.at_ _ hgd
            rw [hat] at h1
            injection h1 with h1
            injection h1
          obtain ⟨w4, hes, hown4, hg4⟩ := hst (- RL.tot (X.take k) (RL.key X[k]) - X[k].amount) (wf64 (by omega) (by omega))
          have hD1 := hD.put_ (K' := RL.has (X.take (k + 1))) (T' := fun c => - RL.tot (X.take (k + 1)) c) keyGT (RL.key X[k]) hgd (- RL.tot (X.take k) (RL.key X[k]) - X[k].amount) (Rec.has_take X k hlt) (fun c => by
            rw [Rec.tot_take X k hlt]
            have e0 : RL.amt X[k] = X[k].amount := rfl
            split
            · rename_i e; rw [← e]; omega
            · omega)
          have HD1 := Lib.hid hD1
          have hB3 : Blk w3 wr.heap.size 56 #[.int .i64 X[k].kind, .string X[k].code, .int .i64 X[k].amount] := Blk.grown (w := (wr.alloc (Obj.cells #[.int .i64 X[k].kind, .string X[k].code, .int .i64 X[k].amount] 56)).drew) hB1 hg3 (by intro e; injection e; omega)
          have hbel4 : Below w2.heap.size w2 w4 := bel_only (below_drewN hbel1 1) hg4 (fun g e => by injection e; omega)
          have d0 := hB3.cell 0
          have d1 := hB3.cell 1
          have d2 := hB3.cell 2
          simp only [List.getElem?_toArray, List.getElem?_cons_zero, List.getElem?_cons_succ] at d0 d1 d2
          have hl3 := hB3.lt
          generalize - RL.tot (X.take k) (RL.key X[k]) = t0 at *
          clear hD hD1 hTb hTl hat hwc hst hkey hgd hB1 hB3 hf hown1
          go_wp2
          go_big_region
          go_wp2
          go_roundw
          case rel => exact ⟨k + 1, _, by omega, by go_num, hown4, HD1.out, hbel4⟩
          case measure => simp [intOf]; omega
        · have ek : X.take k = X := List.take_of_length_le (by omega)
          rw [ek] at hD
          have hkX : k ≤ 65536 := by omega
          obtain ⟨wo, rfl⟩ : ∃ wo : World, wo = wr := ⟨_, rfl⟩
          have hD0 : MapG litT goodT D (fun c => RL.has X c || RL.has (Y.take 0) c) (fun c => RL.tot (Y.take 0) c - RL.tot X c) := by
            have e1 : (fun c => RL.has X c || RL.has (Y.take 0) c) = RL.has X := by funext c; simp [Rec.has]
            have e2 : (fun c => RL.tot (Y.take 0) c - RL.tot X c) = fun c => - RL.tot X c := by funext c; simp [Rec.tot]
            rw [e1, e2]; exact hD
          clear hD ek
          go_wp2
          go_loopw [52] (fun i wr => ∃ (m : Nat) (D : DataW Unit), m ≤ Y.length ∧ i = .int .i64 m ∧ wr.ownsMap Try.prog 79 (plainElem (H := Unit) Try.prog 3) w2.heap.size (k + m) D ∧ MapG litT goodT D (fun c => RL.has X c || RL.has (Y.take m) c) (fun c => RL.tot (Y.take m) c - RL.tot X c) ∧ Below w2.heap.size w2 wr) (fun i _ => Y.length - (intOf i).toNat)
          case atStart => exact ⟨0, D, by omega, rfl, hown, hD0, hbel⟩
          case round =>
            clear hown hD0 hbel hbs hml
            obtain ⟨m, D, hm, rfl, hown, hD, hbel⟩ := hrel
            have hbs := hbel.size
            have hml := hown.lt
            by_cases hltm : m < Y.length
            · obtain ⟨b, off, rfl, hb, hc⟩ := (hS2.below hbel).at_ hltm
              have c0 := hc 0 _ rfl
              have c1 := hc 1 _ rfl
              have c2 := hc 2 _ rfl
              simp only [Nat.add_zero] at c0
              clear hc
              have hTx := Rec.tot_bd (R := RL) X (RL.key Y[m]) 1000000000000 (by omega) (fun x hx => form_amt (HXF.out x hx))
              have hzk := HZ2.out _ (List.getElem_mem hltm)
              have hf := HYF.out _ (List.getElem_mem hltm)
              obtain ⟨ha1, ha2⟩ := form_amt hf
              have hgd := good_of hzk hf
              have hB1 := Blk.new wr 56 #[.int .i64 Y[m].kind, .string Y[m].code, .int .i64 Y[m].amount]
              have hown1 := hown.alloc (Obj.cells #[.int .i64 Y[m].kind, .string Y[m].code, .int .i64 Y[m].amount] 56)
              have hbel1 := bel_alloc hbel (Obj.cells #[.int .i64 Y[m].kind, .string Y[m].code, .int .i64 Y[m].amount] 56)
              have hTb := Rec.tot_bd (R := RL) (Y.take m) (RL.key Y[m]) 1000000000000 (by omega) (fun x hx => form_amt (HYF.out x (List.mem_of_mem_take hx)))
              have hTl : (Y.take m).length ≤ 65536 := by simp; omega
              have hT1 : -200000000000000000 ≤ RL.tot (Y.take m) (RL.key Y[m]) - RL.tot X (RL.key Y[m]) := by omega
              have hT2 : RL.tot (Y.take m) (RL.key Y[m]) - RL.tot X (RL.key Y[m]) ≤ 200000000000000000 := by omega
              have hkey : keyOf Try.prog 79 (.agg #[.int .i64 Y[m].kind, .string Y[m].code]) = some (litT (RL.key Y[m])) := keyT _ _ hgd
              obtain ⟨c, st, w3, hlk, hat, hwc, hme, hlk3, hg3, hst⟩ := entry_own lawT Try.underlying77 Try.underlying3 zeroI hown1.drew (by unfold maxLen; omega) hD.isMap hkey
              obtain rfl : c = RL.tot (Y.take m) (RL.key Y[m]) - RL.tot X (RL.key Y[m]) := by
                have h1 := hD.at_ _ hgd
                rw [hat] at h1
                injection h1 with h1
                injection h1
              obtain ⟨w4, hes, hown4, hg4⟩ := hst (RL.tot (Y.take m) (RL.key Y[m]) - RL.tot X (RL.key Y[m]) + Y[m].amount) (wf64 (by omega) (by omega))
              have hD1 := hD.put_ (K' := fun c => RL.has X c || RL.has (Y.take (m + 1)) c) (T' := fun c => RL.tot (Y.take (m + 1)) c - RL.tot X c) keyGT (RL.key Y[m]) hgd (RL.tot (Y.take m) (RL.key Y[m]) - RL.tot X (RL.key Y[m]) + Y[m].amount) (fun c => by rw [Rec.has_take Y m hltm, Bool.or_assoc]) (fun c => by
                rw [Rec.tot_take Y m hltm]
                have e0 : RL.amt Y[m] = Y[m].amount := rfl
                split
                · rename_i e; rw [← e]; omega
                · omega)
              have HD1 := Lib.hid hD1
              have hB3 : Blk w3 wr.heap.size 56 #[.int .i64 Y[m].kind, .string Y[m].code, .int .i64 Y[m].amount] := Blk.grown (w := (wr.alloc (Obj.cells #[.int .i64 Y[m].kind, .string Y[m].code, .int .i64 Y[m].amount] 56)).drew) hB1 hg3 (by intro e; injection e; omega)
              have hbel4 : Below w2.heap.size w2 w4 := bel_only (below_drewN hbel1 1) hg4 (fun g e => by injection e; omega)
              have d0 := hB3.cell 0
              have d1 := hB3.cell 1
              have d2 := hB3.cell 2
              simp only [List.getElem?_toArray, List.getElem?_cons_zero, List.getElem?_cons_succ] at d0 d1 d2
              have hl3 := hB3.lt
              generalize RL.tot (Y.take m) (RL.key Y[m]) - RL.tot X (RL.key Y[m]) = t0 at *
              clear hD hD1 hTb hTl hat hwc hst hkey hgd hB1 hB3 hf hown1
              clear hTx
              go_wp2
              go_big_region
              go_wp2
              go_roundw
              case rel => exact ⟨m + 1, _, by omega, by go_num, hown4, HD1.out, hbel4⟩
              case measure => simp [intOf]; omega
            · have ek : Y.take m = Y := List.take_of_length_le (by omega)
              rw [ek] at hD
              have hbelw := bel_adv hbel2 hbel
              have hKG : ∀ c, (RL.has X c || RL.has Y c) = true → goodT c := fun c hc => by
                rw [Bool.or_eq_true] at hc
                rcases hc with hc | hc
                · exact has_good HZX.out HXF.out c hc
                · exact has_good HZ2.out HYF.out c hc
              go_wp2_with fail
              refine (collect_any w2.heap.size (k + m) D _ _ _ hown hD hKG (by omega)).mono ?_
              rintro e w4 ⟨hb4, ⟨hbad, rfl⟩ | ⟨hgood, A4, cap4, zs, rfl, hS4, hyn, hyc, hcm4, hzs, hmem⟩⟩
              · have HP : Hid (cErr xs ys = 4) := by
                  obtain ⟨s1, s2, s3⟩ := HSL.out
                  have h4 : anyOver (cmpL X Y) = true := (Rec.any_iff RL_law maxN s1).2 (by
                    obtain ⟨c, hc1, hc2⟩ := hbad
                    exact ⟨c, by rw [s3, Bool.or_comm]; exact hc1, by rw [s2]; exact hc2⟩)
                  rw [Hid, HE.out, h4]; rfl
                go_wp2
                go_ret2
                exact LinesPost.fail (cR_nil HP.out (by omega)) HP.out (bel_adv hbelw hb4)
              · have HP : Hid (cErr xs ys = 0) := by
                  obtain ⟨s1, s2, s3⟩ := HSL.out
                  have h4 : anyOver (cmpL X Y) = false := by
                    cases hh : anyOver (cmpL X Y)
                    · rfl
                    · obtain ⟨c, hc1, hc2⟩ := (Rec.any_iff RL_law maxN s1).1 hh
                      rw [s3, Bool.or_comm] at hc1
                      rw [s2, hgood c hc1] at hc2
                      cases hc2
                  rw [Hid, HE.out, h4]; rfl
                have HM : Hid (cR xs ys = zs) := by
                  obtain ⟨s1, s2, s3⟩ := HSL.out
                  rw [Hid, HR.out HP.out]
                  exact (Rec.filtered_eq RL_law s1 hzs (fun x => by rw [s2, s3, Bool.or_comm]; exact hmem x)).symm
                go_wp2
                go_ret2
                rw [HM.out, HP.out]
                exact ⟨A4, cap4, rfl, hS4, hyc, hcm4, bel_adv hbelw hb4⟩
    · have h1' : (mErr ys != 0) = true := by simpa using h1
      have HE : Hid (cErr xs ys = mErr ys) := by rw [Hid, cErr, if_neg (by simp [H0.out]), if_pos h1]
      have H1 := Lib.hid h1
      clear h1
      go_wp2
      go_ret2
      exact LinesPost.fail (cR_nil HE.out H1.out) HE.out hbel2
  · have h0' : (mErr xs != 0) = true := by simpa using h0
    have HE : Hid (cErr xs ys = mErr xs) := by rw [Hid, cErr, if_pos h0]
    have H0 := Lib.hid h0
    clear h0
    go_wp2
    go_ret2
    exact LinesPost.fail (cR_nil HE.out H0.out) HE.out hb1

end Go.Proofs.Ytnbfhnhneakajaa
