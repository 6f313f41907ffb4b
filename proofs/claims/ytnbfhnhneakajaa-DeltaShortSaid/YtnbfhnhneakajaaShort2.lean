/- The walk of payrolllaw37.DeltaShort: it returns true and turns nothing that was there. Conditions: as stated. -/
import Derived.Test.YtnbfhnhneakajaaShort
namespace Go.Proofs.Ytnbfhnhneakajaa
open Go.RowKit

theorem postOk_of {r : Int} {l : List LineT} (h1 : 1 ≤ r) (h2 : r ≤ 256) (hf : ∀ x ∈ l, formZ x = true) (hc : ∀ x ∈ l, x.code.size ≤ maxLen) : ∀ p ∈ postR r 1 0 l, PostOk p := fun p hp => by
  obtain ⟨x, hx, rfl⟩ := List.mem_map.1 hp
  exact ⟨h1, h2, by show (1 : Int) ≤ 1; omega, by show (1 : Int) ≤ _; omega, by show (0 : Int) ≤ 0; omega, by show (0 : Int) ≤ _; omega, hf x hx, hc x hx⟩
theorem sel_of {r : Int} {l : List LineT} : ∀ p ∈ postR r 1 0 l, p.employee = 1 ∧ p.period = 0 := fun p hp => by
  obtain ⟨x, hx, rfl⟩ := List.mem_map.1 hp
  exact ⟨rfl, rfl⟩
theorem run_of {r : Int} {l : List LineT} {i : Nat} (h : i < (postR r 1 0 l).length) : (postR r 1 0 l)[i].run = r := by simp [postR]
theorem asc_of {r : Int} {l : List LineT} : Asc (postR r 1 0 l) := fun i hi => by rw [run_of, run_of]; exact Int.le_refl _
theorem asc_both {l m : List LineT} : Asc (postR 1 1 0 l ++ postR 2 1 0 m) := fun i hi => by
  rw [List.getElem_append, List.getElem_append]
  split <;> split
  · rw [run_of, run_of]; omega
  · rw [run_of, run_of]; omega
  · omega
  · rw [run_of, run_of]; omega
theorem lines_post (r e p : Int) (l : List LineT) : linesOf (postR r e p l) = l := by
  rw [linesOf, postR, List.map_map]; exact List.map_id _
theorem lines_app (a b : List PostT) : linesOf (a ++ b) = linesOf a ++ linesOf b := by simp [linesOf]
theorem pR_diff {r : Int} {a b : List LineT} (h1 : 1 ≤ r) (h2 : r ≤ 256) (h : cErr a b = 0) : pErr r 1 0 a b = 0 ∧ pR r 1 0 a b = postR r 1 0 (cR a b) := by
  have he : pErr r 1 0 a b = 0 := by
    rw [pErr, if_neg (by simp [h])]
    have : rangeB r 1 0 = true := by simp [rangeB, inB]; omega
    rw [this]; rfl
  exact ⟨he, by rw [pR, if_pos he]⟩

set_option maxRecDepth 100000 in
set_option maxHeartbeats 2000000 in
theorem short_walk (B : Option Addr) (lcap : Nat) (l : List Int) (w : World)
    (hI : SliceOf encI 1 w w.heap.size B l) (hIl : l.length ≤ 9223372036854775807) (hIb : ∀ x ∈ l, I64 x) :
    Calls Try.prog 10 #[.slice B l.length lcap] w fun e w' => e = .returned (.bool true) ∧ Below w.heap.size w w' := by
  go_enter Try.func10, Try.ntmps10
  go_wp2_with fail
  refine (new_any B l lcap _ hI hIl hIb).mono ?_
  rintro e w1 ⟨rfl, hd1, hb1⟩
  have hs1 := hd1.lt
  go_wp2_with fail
  refine (lines_any w.heap.size 0 6 _ (by omega) (by omega) hd1).mono ?_
  rintro e w2 ⟨v2, xs, rfl, hl2, hx2, hown2, hd2, hg2⟩
  have hs2 := hg2.size
  obtain ⟨A2, c2, rfl, hS2, hB2, hlc2, hcm2⟩ := hown2.form2 encL_len
  have hA2 : ∀ a, A2 = some a → a.block ≠ w.heap.size := fun a ha => by have := hB2 a ha; omega
  go_wp2_with fail
  refine (lines_any w.heap.size (0 + 1 + 5 * 6) 6 _ (by omega) (by omega) hd2).mono ?_
  rintro e w3 ⟨v3, ys, rfl, hl3, hx3, hown3, hd3, hg3⟩
  have hs3 := hg3.size
  obtain ⟨A3, c3, rfl, hS3, hB3, hlc3, hcm3⟩ := hown3.form2 encL_len
  have hA3 : ∀ a, A3 = some a → a.block ≠ w.heap.size := fun a ha => by have := hB3 a ha; omega
  go_wp2_with fail
  refine (lines_any w.heap.size (0 + 1 + 5 * 6 + 1 + 5 * 6) 6 _ (by omega) (by omega) hd3).mono ?_
  rintro e w4 ⟨v4, zs, rfl, hl4, hx4, hown4, hd4, hg4⟩
  obtain ⟨A4, c4, rfl, hS4, hB4, hlc4, hcm4⟩ := hown4.form2 encL_len
  have hX := (hS2.advG hg3 hA2).advG hg4 hA2
  have hY := hS3.advG hg4 hA3
  have hg14 : w1.grownBy w4 (some w.heap.size) := only_trans (only_trans hg2 hg3) hg4
  have hbel4 := bel_only hb1 hg14 (fun g e => by injection e; omega)
  have HXZ := Lib.hid (lines_size hx2)
  have HYZ := Lib.hid (lines_size hx3)
  have HZZ := Lib.hid (lines_size hx4)
  have HD1 := Lib.hid (diff_law hx2 hx3 (by omega) (by omega))
  have HD2 := Lib.hid (diff_law hx3 hx4 (by omega) (by omega))
  have HD3 := Lib.hid (diff_law hx2 hx4 (by omega) (by omega))
  have HP1 := Lib.hid (pR_diff (r := 1) (by omega) (by omega) HD1.out.1)
  have HP2 := Lib.hid (pR_diff (r := 2) (by omega) (by omega) HD2.out.1)
  have HP3 := Lib.hid (pR_diff (r := 1) (by omega) (by omega) HD3.out.1)
  clear hd1 hd2 hd3 hd4 hg2 hg3 hg4 hg14 hb1 hI hIb hS2 hS3 hB2 hB3 hB4 hA2 hA3 hown2 hown3 hown4 hx2 hx3 hx4
  go_wp2_with fail
  refine (postings_any 1 1 0 A2 A3 c2 c3 xs ys _ hX HXZ.out (by omega) hY HYZ.out (by omega)).mono ?_
  rw [HP1.out.1, HP1.out.2]
  rintro e w5 ⟨v5, rfl, hown5, hb5⟩
  obtain ⟨A5, c5, rfl, hS5, hB5, hlc5, hcm5⟩ := hown5.form2 encP_len
  go_wp2_with fail
  refine (postings_any 2 1 0 A3 A4 c3 c4 ys zs _ (hY.adv hb5) HYZ.out (by omega) (hS4.adv hb5) HZZ.out (by omega)).mono ?_
  rw [HP2.out.1, HP2.out.2]
  rintro e w6 ⟨v6, rfl, hown6, hb6⟩
  obtain ⟨A6, c6, rfl, hS6, hB6, hlc6, hcm6⟩ := hown6.form2 encP_len
  go_wp2_with fail
  refine (postings_any 1 1 0 A2 A4 c2 c4 xs zs _ ((hX.adv hb5).adv hb6) HXZ.out (by omega) ((hS4.adv hb5).adv hb6) HZZ.out (by omega)).mono ?_
  rw [HP3.out.1, HP3.out.2]
  rintro e w7 ⟨v7, rfl, hown7, hb7⟩
  obtain ⟨A7, c7, rfl, hS7, hB7, hlc7, hcm7⟩ := hown7.form2 encP_len
  have hT5 := (hS5.adv hb6).adv hb7
  have hT6 := hS6.adv hb7
  have hbel7 := bel_adv (bel_adv (bel_adv hbel4 hb5) hb6) hb7
  have D1 := HD1.out.2
  have D2 := HD2.out.2
  have D3 := HD3.out.2
  generalize cR xs ys = da at *
  generalize cR ys zs = db at *
  generalize cR xs zs = dc at *
  have hl1 := D1.len
  have hl2' := D2.len
  have hl3' := D3.len
  have hV1 := Lib.hid (postOk_of (r := 1) (by omega) (by omega) D1.form D1.code)
  have hV2 := Lib.hid (postOk_of (r := 2) (by omega) (by omega) D2.form D2.code)
  have hV3 := Lib.hid (postOk_of (r := 1) (by omega) (by omega) D3.form D3.code)
  have hM3 : Hid (mErr (linesOf (postR 1 1 0 dc)) = 0) := by rw [Hid, lines_post]; exact mErr_diff D3.form D3.bd (by omega)
  have hM12 : Hid (mErr (linesOf (postR 1 1 0 da ++ postR 2 1 0 db)) = 0) := by
    rw [Hid, lines_app, lines_post, lines_post]
    refine mErr_diff (fun x hx => ?_) (fun x hx => ?_) (by simp; omega)
    · rcases List.mem_append.1 hx with h | h
      · exact D1.form x h
      · exact D2.form x h
    · rcases List.mem_append.1 hx with h | h
      · exact D1.bd x h
      · exact D2.bd x h
  have hEQ : Hid (mR (linesOf (postR 1 1 0 da ++ postR 2 1 0 db)) = mR (linesOf (postR 1 1 0 dc))) := mR_same hM12.out hM3.out (fun c => by
    rw [lines_app, lines_post, lines_post, lines_post, Rec.tot_append, D1.tot, D2.tot, D3.tot]; omega)
  have hV12 : Hid (∀ p ∈ postR 1 1 0 da ++ postR 2 1 0 db, PostOk p) := fun p hp => by
    rcases List.mem_append.1 hp with h | h
    · exact hV1.out p h
    · exact hV2.out p h
  have hS12 : Hid (∀ p ∈ postR 1 1 0 da ++ postR 2 1 0 db, p.employee = 1 ∧ p.period = 0) := fun p hp => by
    rcases List.mem_append.1 hp with h | h
    · exact sel_of p h
    · exact sel_of p h
  have k1 := postR_len 1 1 0 da
  have k2 := postR_len 2 1 0 db
  have k3 := postR_len 1 1 0 dc
  have k12 : (postR 1 1 0 da ++ postR 2 1 0 db).length ≤ 65536 := by simp; omega
  have k12' : (postR 1 1 0 da).length + (postR 2 1 0 db).length ≤ 65536 := by omega
  have k3' : (postR 1 1 0 dc).length ≤ 65536 := by omega
  have KA := Lib.hid (asc_of (r := 1) (l := da))
  have KB := Lib.hid (asc_both (l := da) (m := db))
  have KC := Lib.hid (asc_of (r := 1) (l := dc))
  have KS := Lib.hid (sel_of (r := 1) (l := dc))
  have hml := mR_len (linesOf (postR 1 1 0 dc))
  clear k1 k2 k3 D1 D2 D3 HD1 HD2 HD3 HP1 HP2 HP3 hl1 hl2' hl3' hS5 hS6 hown5 hown6 hown7 hB5 hB6 hB7 hb5 hb6 hb7 hX hY hS4 hbel4
  generalize postR 1 1 0 da = pa at *
  generalize postR 2 1 0 db = pb at *
  generalize postR 1 1 0 dc = pc at *
  go_wp2_with fail
  refine (add_yes A5 A6 c5 c6 pa pb _ hT5 hT6 k12' KA.out KB.out hV1.out hV2.out).mono ?_
  rintro e w8 ⟨v8, rfl, hown8, hb8⟩
  obtain ⟨A8, c8, rfl, hS8, hB8, hlc8, hcm8⟩ := hown8.form2 encP_len
  generalize pa ++ pb = pp at *
  go_wp2_with fail
  refine (result_yes A8 c8 pp _ hS8 k12 KB.out hV12.out hS12.out hM12.out).mono ?_
  rintro e w9 ⟨A9, c9, rfl, hS9, hb9⟩
  go_wp2_with fail
  refine (result_yes A7 c7 pc _ ((hS7.adv hb8).adv hb9) k3' KC.out hV3.out KS.out hM3.out).mono ?_
  rintro e w10 ⟨A10, c10, rfl, hS10, hb10⟩
  have hS9' := hS9.adv hb10
  have hbel10 := bel_adv (bel_adv (bel_adv hbel7 hb8) hb9) hb10
  rw [hEQ.out] at hS9' ⊢
  go_wp2_with fail
  refine (sameL_self A9 A10 c9 c10 _ _ hS9' hS10 (by omega)).mono ?_
  rintro e w11 ⟨rfl, q11, rfl⟩
  go_wp2_with fail
  refine (awake_any _).mono ?_
  rintro e w13 ⟨rfl, hb13⟩
  go_wp2
  go_ret
  exact ⟨rfl, bel_adv (below_drewN hbel10 q11) hb13⟩

end Go.Proofs.Ytnbfhnhneakajaa
