/- The walk of DeductionStops: it returns true and turns nothing that was there. Conditions: as stated. -/
import Derived.Test.YtcpkdpflkjjlcaaCaps27
namespace Go.Proofs.Ytcpkdpflkjjlcaa
open Go.RowKit

theorem ltD_of {l : List DedT} (hv : validD l = true) {i k : Nat} (hi : i < l.length) (hk : k < l.length) (h : l[i].rank < l[k].rank ∨ l[k].rank = l[i].rank ∧ i < k) : LtD l[i] l[k] := by
  rcases h with h | ⟨h1, h2⟩
  · exact .inl h
  · refine .inr ⟨h1.symm, ?_⟩
    have := List.pairwise_iff_getElem.1 (validD_iff.1 hv).2.2 i k hi hk h2
    rw [less_eq, ByteArray.toList_eq, ByteArray.toList_eq] at this
    exact of_decide_eq_true this

set_option maxRecDepth 100000 in
set_option maxHeartbeats 8000000 in
theorem stops_walk (I : Option Addr) (icap : Nat) (l : List Int) (before : Bool) (w : World) (hI : SliceOf encI 1 w w.heap.size I l) (hIl : l.length ≤ 9223372036854775807) (hIb : ∀ x ∈ l, I64 x) :
    Calls Try.prog 6 #[.slice I l.length icap, .bool before] w fun e w' => e = .returned (.bool true) ∧ Below w.heap.size w w' := by
  go_enter Try.func6, Try.ntmps6
  go_wp2_with fail
  refine (new_any I l icap _ hI hIl hIb).mono ?_
  rintro e w1 ⟨rfl, hd1, hb1⟩
  have hlt1 := hd1.lt
  go_wp2_with fail
  refine (deductions_any w.heap.size 0 _ (by omega) hd1).mono ?_
  rintro e w2 ⟨v2, ds, rfl, hgd, hown2, hd2, hg2⟩
  go_wp2_with fail
  refine (record_any w.heap.size (0 + 32) _ (by omega) hd2).mono ?_
  rintro e w3 ⟨v3, rs, rfl, hgr, hown3, hd3, hg3⟩
  go_wp2_with fail
  refine (small_any w.heap.size (0 + 32 + 16) _ (by omega) hd3).mono ?_
  rintro e w4 ⟨r4, rfl, ha4, hb4, hd4, hg4⟩
  go_wp2_with fail
  refine (small_any w.heap.size (0 + 32 + 16 + 2) _ (by omega) hd4).mono ?_
  rintro e w5 ⟨r5, rfl, ha5, hb5, hd5, hg5⟩
  go_wp2_with fail
  refine (pick_new w.heap.size (0 + 32 + 16 + 2 + 2) w5 [0, 100, 5000, r5] _ _ _ rfl rfl (by omega) hd5 (by simp) (by simp)).mono ?_
  rintro e w6 ⟨r6, rfl, hm6, hd6, hg6⟩
  have hr6 : 0 ≤ r6 ∧ r6 < 600000 := by simp at hm6; omega
  obtain ⟨ha6, hb6⟩ := hr6
  have hb4' : r4 ≤ 1000000000 := by omega
  have hG2 : w1.grownBy w6 (some w.heap.size) := only_trans (only_trans (only_trans (only_trans hg2 hg3) hg4) hg5) hg6
  have hbel6 : Below w.heap.size w w6 := bel_only hb1 hG2 (fun g e => by injection e; omega)
  have hown2' := hown2.kept (only_trans (only_trans (only_trans hg3 hg4) hg5) hg6) (by intro g e; injection e; omega)
  have hs2 := hg2.size
  have hown3' := hown3.kept (only_trans (only_trans hg4 hg5) hg6) (by intro g e; injection e; omega)
  obtain ⟨A2, c2, rfl, hS2, hB2, hlc2, hcm2⟩ := hown2'.form2 encD_len
  obtain ⟨A3, c3, rfl, hS3, hB3, hlc3, hcm3⟩ := hown3'.form2 encE_len
  have HDZ := Lib.hid hgd.size
  have HRZ := Lib.hid hgr.size
  have hdl := hgd.len
  have hrl := hgr.len
  have hrl2 : rs.length ≤ 9223372036854775806 := by omega
  have hE := takeE_0 hgd.valid hgr.valid (inB_iff.2 ⟨ha4, show r4 ≤ 1000000000 by omega⟩) (inB_iff.2 ⟨ha6, show r6 ≤ 1000000000 by omega⟩)
  have hSt := stops before rs hgd.valid ha4 (show r4 ≤ 1000000000 by omega) ha6 (show r6 ≤ 1000000000 by omega)
  rw [← takeR_ok (before := before) hE] at hSt
  have HE := Lib.hid hE
  have HST := Lib.hid hSt
  have HV := Lib.hid hgd.valid
  have HOK := Lib.hid (validD_iff.1 hgd.valid).2.1
  have HYB := Lib.hid (fun c => year_at hgr.valid c)
  clear hown2 hown3 hown2' hown3' hd1 hd2 hd3 hd4 hd5 hd6 hg2 hg3 hg4 hg5 hg6 hG2 hgd hgr hI hIb hB2 hB3 hm6 hb1 hE hSt
  go_wp2_with fail
  refine (take_any A2 A3 c2 c3 ds rs before r4 r6 _ hS2 HDZ.out (by omega) hS3 HRZ.out (by omega)).mono ?_
  rintro e w7 ⟨A7, c7, rfl, hS7, hlc7, hcm7, hb7⟩
  rw [HE.out]
  generalize takeR ds before r4 r6 rs = ms at hS7 hlc7 HST ⊢
  have hml := HST.out.len
  have hsum := HST.out.sum
  have HMB := Lib.hid HST.out.nonneg
  have hSd := hS2.adv hb7
  have hSr := hS3.adv hb7
  have hbel7 := bel_adv hbel6 hb7
  clear hS2 hS3 hb7 hbel6
  go_wp2_with fail
  refine (sum27_any A7 c7 ms _ _ hS7 (by omega) HMB.out).mono ?_
  rintro e w' ⟨rfl, rfl⟩
  have hsd : decide (r6 < sumE ms) = false := by simpa using hsum
  go_wp2_with fail
  go_loopw [12] (fun i wr => ∃ k : Nat, k ≤ ds.length ∧ i = .int .i64 k ∧ Below w7.heap.size w7 wr) (fun i _ => ds.length - (intOf i).toNat)
  case atStart => exact ⟨0, by omega, rfl, Below.refl _ _⟩
  case round =>
    obtain ⟨i, hi, rfl, hbel⟩ := hrel
    have hbs := hbel.size
    have hSdi := hSd.adv hbel
    have hSri := hSr.adv hbel
    have hS7i := hS7.adv hbel
    by_cases hlt : i < ds.length
    · obtain ⟨b, off, rfl, hb, hc⟩ := hSdi.at_ hlt
      have x0 := hc 0 _ rfl
      have x1 := hc 1 _ rfl
      have x2 := hc 2 _ rfl
      have x3 := hc 3 _ rfl
      have x4 := hc 4 _ rfl
      have x5 := hc 5 _ rfl
      simp only [Nat.add_zero] at x0
      clear hc
      have hokk := HOK.out _ (List.getElem_mem hlt)
      have hzk := HDZ.out _ (List.getElem_mem hlt)
      by_cases hbe : ds[i].before = before
      rotate_left
      · have hbe' : (ds[i].before == before) = false := by simpa using hbe
        clear hbe
        go_wp2
        go_roundw
        case rel => exact ⟨i + 1, by omega, by go_num, hbel⟩
        case measure => simp [intOf]; omega
      have hbe' : (ds[i].before == before) = true := by simpa using hbe
      have HBE := Lib.hid hbe
      clear hbe
      obtain ⟨t1, t2⟩ := HYB.out ds[i].code
      have hgot := HST.out.got _ (List.getElem_mem hlt) HBE.out
      go_wp2_with fail
      have e0 := Bw.cell (w := wr) (a := ⟨b, off + i * 6, none⟩) (by exact hb) x0
      have e1 := Bw.cell (w := wr) (a := ⟨b, off + i * 6 + 1, none⟩) (by exact hb) x1
      have e2 := Bw.cell (w := wr) (a := ⟨b, off + i * 6 + 2, none⟩) (by exact hb) x2
      have e3 := Bw.cell (w := wr) (a := ⟨b, off + i * 6 + 3, none⟩) (by exact hb) x3
      have e4 := Bw.cell (w := wr) (a := ⟨b, off + i * 6 + 4, none⟩) (by exact hb) x4
      have e5 := Bw.cell (w := wr) (a := ⟨b, off + i * 6 + 5, none⟩) (by exact hb) x5
      refine wp_region_below (by kernel_rfl) (by kernel_rfl) ?_
      repeat (first | go_big_quiet_step ((first | exact Bw.call_same _ (at26_any A3 c3 rs _ _ _ (hSri.adv (Bw.h _)) hrl2) | exact Bw.call _ (wanted_ok ds[i] r4 (atE rs ds[i].code) _ hzk hokk ha4 hb4' t1 t2))) | quiet_step ((first | exact Bw.call_same _ (at26_any A3 c3 rs _ _ _ (hSri.adv (Bw.h _)) hrl2) | exact Bw.call _ (wanted_ok ds[i] r4 (atE rs ds[i].code) _ hzk hokk ha4 hb4' t1 t2))))
      refine wpQuiet_nil ?_
      intro W2 hw'
      obtain ⟨⟨W9, hW2⟩, hw''⟩ := hw'
      subst hw''
      have hSd2 := hSdi.adv hW2
      have hS72 := hS7i.adv hW2
      have hbel2 := bel_adv hbel hW2
      have z0 := (hW2.cell (p := ⟨b, off + i * 6, none⟩) hb).trans x0
      have z1 := (hW2.cell (p := ⟨b, off + i * 6 + 1, none⟩) hb).trans x1
      have hb2' : b < W2.heap.size := Nat.lt_of_lt_of_le hb hW2.size
      clear e0 e1 e2 e3 e4 e5 hSdi hSri hS7i x0 x1 x2 x3 x4 x5 hW2 hbel hbs
      have HSTOP := Lib.hid (fun hg => HST.out.stop _ (List.getElem_mem hlt) HBE.out hg)
      generalize wantN ds[i] r4 (atE rs ds[i].code) = wn at hgot HSTOP ⊢
      go_wp2_with fail
      refine (at26_any A7 c7 ms _ _ _ hS72 (by omega)).mono ?_
      rintro e w' ⟨rfl, rfl⟩
      generalize atE ms ds[i].code = gt at hgot HSTOP ⊢
      have hgd : decide (wn < gt) = false := by simpa using hgot
      go_wp2_with fail
      obtain ⟨wo, rfl⟩ : ∃ wo : World, wo = W2 := ⟨_, rfl⟩
      go_loopw [16] (fun j wr => ∃ k q : Nat, k ≤ ds.length ∧ j = .int .i64 k ∧ Hid (wr = wo.drewN q)) (fun j _ => ds.length - (intOf j).toNat)
      case atStart => exact ⟨0, 0, by omega, rfl, rfl⟩
      case round =>
        obtain ⟨k, q, hk, rfl, hw⟩ := hrel
        have hSd3 : SliceOf encD 6 wr wr.heap.size (some ⟨b, off, none⟩) ds := by rw [hw.out]; exact hSd2
        have hS73 : SliceOf encE 2 wr wr.heap.size A7 ms := by rw [hw.out]; exact hS72
        have hbel3 : Below w7.heap.size w7 wr := by rw [hw.out]; exact below_drewN hbel2 q
        have zi : wr.cell? ⟨b, off + i * 6 + 1, none⟩ = some (.int .i64 ds[i].rank) := by rw [hw.out]; exact z1
        have hbw : b < wr.heap.size := by rw [hw.out]; exact hb2'
        by_cases hltk : k < ds.length
        · obtain ⟨b', off', hA', hb', hc⟩ := hSd3.at_ hltk
          injection hA' with hA'
          injection hA' with h1 h2
          subst h1 h2
          have y0 := hc 0 _ rfl
          have y1 := hc 1 _ rfl
          have y2 := hc 2 _ rfl
          simp only [Nat.add_zero] at y0
          clear hc
          have HL := Lib.hid (fun hgw hlat => HSTOP.out hgw ds[k] (List.getElem_mem hltk) (ltD_of HV.out hlt hltk hlat))
          have hcs : decide (ds[i].rank < ds[k].rank) = true ∨ (decide (ds[i].rank < ds[k].rank) = false ∧ (ds[k].rank == ds[i].rank) = true ∧ i < k) ∨ (decide (ds[i].rank < ds[k].rank) = false ∧ (ds[k].rank == ds[i].rank) = true ∧ k ≤ i) ∨ (decide (ds[i].rank < ds[k].rank) = false ∧ (ds[k].rank == ds[i].rank) = false) := by
            go_light
            by_cases g1 : ds[i].rank < ds[k].rank
            · exact .inl (by simpa using g1)
            · by_cases g2 : ds[k].rank = ds[i].rank
              · rcases Nat.lt_or_ge i k with g3 | g3
                · exact .inr (.inl ⟨by simpa using g1, by simpa using g2, g3⟩)
                · exact .inr (.inr (.inl ⟨by simpa using g1, by simpa using g2, g3⟩))
              · exact .inr (.inr (.inr ⟨by simpa using g1, by simpa using g2⟩))
          rcases hcs with g1 | ⟨g1, g2, g3⟩ | ⟨g1, g2, g3⟩ | ⟨g1, g2⟩
          · have hlat : ds[i].rank < ds[k].rank := of_decide_eq_true g1
            have HLZ : Hid (gt < wn → atE ms ds[k].code = 0) := fun hgw => HL.out hgw (.inl hlat)
            clear hlat
            go_wp2_with fail
            go_quiet (fail)
            by_cases hgw : gt < wn
            · have HZ0 := Lib.hid (HLZ.out hgw)
              by_cases hbk : ds[k].before = before
              · have hbk' : (ds[k].before == before) = true := by simpa using hbk
                clear hbk
                have hat := at26_any A7 c7 ms ds[k].code _ _ (hS73.advD nq) (by omega)
                rw [HZ0.out] at hat
                have HAT := Lib.hid hat
                clear hat
                go_wp2_with fail
                refine Calls.mono HAT.out ?_
                rintro e w' ⟨rfl, rfl⟩
                go_wp2
                go_roundw
                case rel => exact ⟨k + 1, q + nq, by omega, by go_num, by show wr.drewN nq = wo.drewN (q + nq); rw [hw.out, World.drewN_drewN]⟩
                case measure => simp [intOf]; omega
              · have hbk' : (ds[k].before == before) = false := by simpa using hbk
                clear hbk
                go_wp2
                go_roundw
                case rel => exact ⟨k + 1, q + nq, by omega, by go_num, by show wr.drewN nq = wo.drewN (q + nq); rw [hw.out, World.drewN_drewN]⟩
                case measure => simp [intOf]; omega
            · go_wp2
              go_roundw
              case rel => exact ⟨k + 1, q + nq, by omega, by go_num, by show wr.drewN nq = wo.drewN (q + nq); rw [hw.out, World.drewN_drewN]⟩
              case measure => simp [intOf]; omega
          · have hlat : ds[k].rank = ds[i].rank := by simpa using g2
            have HLZ : Hid (gt < wn → atE ms ds[k].code = 0) := fun hgw => HL.out hgw (.inr ⟨hlat, g3⟩)
            have hd1 : decide ((i : Int) < (k : Int)) = true := by simpa using g3
            have hd2 : decide (i < k) = true := by simpa using g3
            clear hlat
            go_wp2_with fail
            go_quiet (fail)
            by_cases hgw : gt < wn
            · have HZ0 := Lib.hid (HLZ.out hgw)
              by_cases hbk : ds[k].before = before
              · have hbk' : (ds[k].before == before) = true := by simpa using hbk
                clear hbk
                have hat := at26_any A7 c7 ms ds[k].code _ _ (hS73.advD nq) (by omega)
                rw [HZ0.out] at hat
                have HAT := Lib.hid hat
                clear hat
                go_wp2_with fail
                refine Calls.mono HAT.out ?_
                rintro e w' ⟨rfl, rfl⟩
                go_wp2
                go_roundw
                case rel => exact ⟨k + 1, q + nq, by omega, by go_num, by show wr.drewN nq = wo.drewN (q + nq); rw [hw.out, World.drewN_drewN]⟩
                case measure => simp [intOf]; omega
              · have hbk' : (ds[k].before == before) = false := by simpa using hbk
                clear hbk
                go_wp2
                go_roundw
                case rel => exact ⟨k + 1, q + nq, by omega, by go_num, by show wr.drewN nq = wo.drewN (q + nq); rw [hw.out, World.drewN_drewN]⟩
                case measure => simp [intOf]; omega
            · go_wp2
              go_roundw
              case rel => exact ⟨k + 1, q + nq, by omega, by go_num, by show wr.drewN nq = wo.drewN (q + nq); rw [hw.out, World.drewN_drewN]⟩
              case measure => simp [intOf]; omega
          · have hd1 : decide ((i : Int) < (k : Int)) = false := by simp; omega
            have hd2 : decide (i < k) = false := by simp; omega
            go_wp2_with fail
            go_quiet (fail)
            by_cases hgw : gt < wn
            · go_wp2
              go_roundw
              case rel => exact ⟨k + 1, q + nq, by omega, by go_num, by show wr.drewN nq = wo.drewN (q + nq); rw [hw.out, World.drewN_drewN]⟩
              case measure => simp [intOf]; omega
            · go_wp2
              go_roundw
              case rel => exact ⟨k + 1, q + nq, by omega, by go_num, by show wr.drewN nq = wo.drewN (q + nq); rw [hw.out, World.drewN_drewN]⟩
              case measure => simp [intOf]; omega
          · go_wp2_with fail
            go_quiet (fail)
            by_cases hgw : gt < wn
            · go_wp2
              go_roundw
              case rel => exact ⟨k + 1, q + nq, by omega, by go_num, by show wr.drewN nq = wo.drewN (q + nq); rw [hw.out, World.drewN_drewN]⟩
              case measure => simp [intOf]; omega
            · go_wp2
              go_roundw
              case rel => exact ⟨k + 1, q + nq, by omega, by go_num, by show wr.drewN nq = wo.drewN (q + nq); rw [hw.out, World.drewN_drewN]⟩
              case measure => simp [intOf]; omega
        · go_wp2_with fail
          go_roundw
          case rel => exact ⟨i + 1, by omega, by go_num, hbel3⟩
          case measure => simp [intOf]; omega
    · go_wp2_with fail
      refine (awake_any _).mono ?_
      rintro e w13 ⟨rfl, hb13⟩
      go_wp2
      go_ret
      exact ⟨rfl, bel_adv (bel_adv hbel7 hbel) hb13⟩

end Go.Proofs.Ytcpkdpflkjjlcaa
