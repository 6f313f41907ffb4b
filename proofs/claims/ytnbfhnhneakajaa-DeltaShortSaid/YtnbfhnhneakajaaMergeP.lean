/- Contract of payslip.Merge: it hands back 'mR' and 'mErr', as the reference does. Conditions: the slice's length fits an int, strings' lengths fit the model. -/
import Derived.Test.YtnbfhnhneakajaaCollect
import Derived.RegionTactic
import Derived.BigRegion
namespace Go.Proofs.Ytnbfhnhneakajaa
open Go.RowKit Go.Sort Go.Shelf Go.Maps Go.WideMaps Go.WideElems Go.ChangeMaps

/-- What payslip.Merge and Compare hand back. -/
def LinesPost (m : List LineT) (er : Int) (w : World) (e : Ending) (w' : World) : Prop :=
  ∃ A cap, e = .returned (.tuple #[.slice A m.length cap, .int .i64 er]) ∧ SliceOf encL 3 w' w'.heap.size A m ∧ m.length ≤ cap ∧ cap ≤ maxLen ∧ Below w.heap.size w w'
theorem LinesPost.fail {m : List LineT} {er n : Int} {w W : World} (hm : m = []) (he : er = n) (hb : Below w.heap.size w W) : LinesPost m er w (.returned (.tuple #[.slice none 0 0, .int .i64 n])) W := by
  subst hm he
  exact ⟨none, 0, rfl, SliceOf.nil_, by simp, by unfold maxLen; omega, hb⟩
theorem mR_nil {l : List LineT} {n : Int} (h : mErr l = n) (hn : n ≠ 0) : mR l = [] := by rw [mR, if_neg (by rw [h]; exact hn)]
theorem has_good {xs : List LineT} (hz : ∀ x ∈ xs, x.code.size ≤ maxLen) (hf : ∀ x ∈ xs, formB x = true) : ∀ c, RL.has xs c = true → goodT c := fun c hc => by
  obtain ⟨x, hx, e⟩ := List.any_eq_true.1 hc
  have e' : RL.key x = c := by simpa using e
  rw [← e']
  have h1 := hf x hx
  simp [formB] at h1
  exact ⟨wf64 (by show _ ≤ x.kind; omega) (by show x.kind ≤ _; omega), by have := hz x hx; simpa [RL] using this⟩
theorem good_of {x : LineT} (hz : x.code.size ≤ maxLen) (hf : formB x = true) : goodT (RL.key x) := by
  have h1 := hf
  simp [formB] at h1
  exact ⟨wf64 (by show _ ≤ x.kind; omega) (by show x.kind ≤ _; omega), by simpa [RL] using hz⟩

set_option maxRecDepth 100000 in
set_option maxHeartbeats 4000000 in
theorem mergeP_any (A : Option Addr) (cap : Nat) (xs : List LineT) (w : World) (h : SliceOf encL 3 w w.heap.size A xs) (hz : ∀ x ∈ xs, x.code.size ≤ maxLen) (hl : xs.length ≤ 9223372036854775806) :
    Calls Try.prog 52 #[.slice A xs.length cap] w (LinesPost (mR xs) (mErr xs) w) := by
  have HZ := Lib.hid hz; clear hz
  have hmm := @run_makeMap Try.prog
  by_cases hlen : 65536 < xs.length
  · have HP : Hid (mErr xs = 3) := by simp only [Hid, mErr, if_pos hlen]
    go_enter Try.func52, Try.ntmps52
    go_wp2
    go_ret2
    exact LinesPost.fail (mR_nil HP.out (by omega)) HP.out (Below.refl _ _)
  · have hlen' : xs.length ≤ 65536 := by omega
    clear hlen hl
    go_enter Try.func52, Try.ntmps52
    go_wp2
    have hmap0 : (w.alloc (.map #[] 0)).ownsMap Try.prog 79 (plainElem (H := Unit) Try.prog 3) w.heap.size 0 (.map []) := World.ownsMap_made _ _ _ _
    have hbel0 : Below w.heap.size w (w.alloc (.map #[] 0)) := below_new _ _
    go_loopw [13] (fun i wr => ∃ (k : Nat) (D : DataW Unit), k ≤ xs.length ∧ i = .int .i64 k ∧ Hid (∀ x ∈ xs.take k, formB x = true) ∧ wr.ownsMap Try.prog 79 (plainElem (H := Unit) Try.prog 3) w.heap.size k D ∧ MapG litT goodT D (RL.has (xs.take k)) (RL.tot (xs.take k)) ∧ Below w.heap.size w wr) (fun i _ => xs.length - (intOf i).toNat)
    case atStart => exact ⟨0, .map [], by omega, rfl, (fun x hx => by simp at hx), hmap0, MapG.empty, hbel0⟩
    case round =>
      clear hmap0 hbel0
      obtain ⟨k, D, hk, rfl, hall, hown, hD, hbel⟩ := hrel
      have hbs := hbel.size
      have hml := hown.lt
      by_cases hlt : k < xs.length
      · obtain ⟨b, off, rfl, hb, hc⟩ := (h.below hbel).at_ hlt
        have c0 := hc 0 _ rfl
        have c1 := hc 1 _ rfl
        have c2 := hc 2 _ rfl
        simp only [Nat.add_zero] at c0
        clear hc
        have hzk := HZ.out _ (List.getElem_mem hlt)
        go_wp2_with fail
        refine (formed_any xs[k] _ hzk).mono ?_
        rintro e w1 ⟨rfl, hb1⟩
        have hB1 := (Blk.new wr _ _).adv hb1
        have hown1 := (hown.alloc (Obj.cells #[.int .i64 xs[k].kind, .string xs[k].code, .int .i64 xs[k].amount] 56)).kept (only_of_below hb1 none) (by simp)
        have hbel1 := bel_adv (bel_alloc hbel _) hb1
        clear hb1 hown
        rcases hf : formB xs[k] with _ | _
        · have HP : Hid (mErr xs = 1) := by
            have h7 : xs.any (fun x => !formB x) = true := List.any_eq_true.2 ⟨xs[k], List.getElem_mem _, by simp [hf]⟩
            simp only [Hid, mErr, if_neg (show ¬ 65536 < xs.length by omega), h7, if_true]
          clear hf
          go_wp2
          go_ret2
          exact LinesPost.fail (mR_nil HP.out (by omega)) HP.out hbel1
        · obtain ⟨ha1, ha2⟩ := form_amt hf
          have hgd := good_of hzk hf
          have hall1 : ∀ x ∈ xs.take (k + 1), formB x = true := by
            intro x hx
            rw [List.take_succ_eq_append_getElem hlt] at hx
            rcases List.mem_append.1 hx with hx | hx
            · exact hall.out x hx
            · simp at hx; subst hx; exact hf
          have HALL := Lib.hid hall1
          have hTb := Rec.tot_bd (R := RL) (xs.take k) (RL.key xs[k]) 1000000000000 (by omega) (fun x hx => form_amt (hall.out x hx))
          have hTl : (xs.take k).length ≤ 65536 := by simp; omega
          have hT1 : -100000000000000000 ≤ RL.tot (xs.take k) (RL.key xs[k]) := by omega
          have hT2 : RL.tot (xs.take k) (RL.key xs[k]) ≤ 100000000000000000 := by omega
          have hkey : keyOf Try.prog 79 (.agg #[.int .i64 xs[k].kind, .string xs[k].code]) = some (litT (RL.key xs[k])) := keyT _ _ hgd
          obtain ⟨c, st, w3, hlk, hat, hwc, hme, hlk3, hg3, hst⟩ := entry_own lawT Try.underlying77 Try.underlying3 zeroI hown1.drew (by unfold maxLen; omega) hD.isMap hkey
          obtain rfl : c = RL.tot (xs.take k) (RL.key xs[k]) := by
            have h1 := hD.at_ _ hgd
            rw [hat] at h1
            injection h1 with h1
            injection h1
          obtain ⟨w4, hes, hown4, hg4⟩ := hst (RL.tot (xs.take k) (RL.key xs[k]) + xs[k].amount) (wf64 (by omega) (by omega))
          have hD1 := hD.put_ (K' := RL.has (xs.take (k + 1))) (T' := RL.tot (xs.take (k + 1))) keyGT (RL.key xs[k]) hgd (RL.tot (xs.take k) (RL.key xs[k]) + xs[k].amount) (Rec.has_take xs k hlt) (fun c => by
            rw [Rec.tot_take xs k hlt]
            split
            · rename_i e; rw [← e]; rfl
            · omega)
          have HD1 := Lib.hid hD1
          have hB3 : Blk w3 wr.heap.size 56 #[.int .i64 xs[k].kind, .string xs[k].code, .int .i64 xs[k].amount] := Blk.grown (w := w1.drew) hB1 hg3 (by intro e; injection e; omega)
          have hbel4 : Below w.heap.size w w4 := bel_only (below_drewN hbel1 1) hg4 (fun g e => by injection e; omega)
          have e0 := hB1.cell 0
          have e1 := hB1.cell 1
          have e2 := hB1.cell 2
          simp only [List.getElem?_toArray, List.getElem?_cons_zero, List.getElem?_cons_succ] at e0 e1 e2
          have d0 := hB3.cell 0
          have d1 := hB3.cell 1
          have d2 := hB3.cell 2
          simp only [List.getElem?_toArray, List.getElem?_cons_zero, List.getElem?_cons_succ] at d0 d1 d2
          have hl1 := hB1.lt
          have hl3 := hB3.lt
          generalize RL.tot (xs.take k) (RL.key xs[k]) = t0 at *
          clear hD hD1 hall hall1 hTb hTl hat hwc hst hkey hgd hB1 hB3 hf hown1 hmm c0 c1 c2
          go_wp2
          go_big_region
          go_wp2
          go_roundw
          case rel => exact ⟨k + 1, _, by omega, by go_num, HALL, hown4, HD1.out, hbel4⟩
          case measure => simp [intOf]; omega
      · have ek : xs.take k = xs := List.take_of_length_le (by omega)
        rw [ek] at hD hall
        have h1 : Hid (xs.any (fun x => !formB x) = false) := by
          rw [Hid, List.any_eq_false]
          intro x hx
          simp [hall.out x hx]
        have HM := Lib.hid (mErr_cases xs hlen' h1.out)
        go_wp2_with fail
        refine (collect_any w.heap.size k D _ _ _ hown hD (has_good HZ.out hall.out) (by omega)).mono ?_
        rintro e w4 ⟨hb4, ⟨hbad, rfl⟩ | ⟨hgood, A4, cap4, ys, rfl, hS4, hyn, hyc, hcm4, hys, hmem⟩⟩
        · have HP : Hid (mErr xs = 4) := by
            have h4 : anyOver (RL.sums xs) = true := (Rec.any_iff RL_law maxN (Rec.sums_sorted RL_law xs)).2 (by
              obtain ⟨c, hc1, hc2⟩ := hbad
              exact ⟨c, by rw [Rec.sums_has RL_law]; exact hc1, by rw [Rec.sums_tot RL_law]; exact hc2⟩)
            rw [Hid, HM.out, h4]; rfl
          go_wp2
          go_ret2
          exact LinesPost.fail (mR_nil HP.out (by omega)) HP.out (bel_adv hbel hb4)
        · have HP : Hid (mErr xs = 0) := by
            have h4 : anyOver (RL.sums xs) = false := by
              cases hh : anyOver (RL.sums xs)
              · rfl
              · obtain ⟨c, hc1, hc2⟩ := (Rec.any_iff RL_law maxN (Rec.sums_sorted RL_law xs)).1 hh
                rw [Rec.sums_has RL_law] at hc1
                rw [Rec.sums_tot RL_law, hgood c hc1] at hc2
                cases hc2
            rw [Hid, HM.out, h4]; rfl
          have HR : Hid (mR xs = ys) := by
            rw [Hid, mR, if_pos HP.out]
            exact (Rec.filtered_eq RL_law (Rec.sums_sorted RL_law xs) hys (fun x => by rw [Rec.sums_has RL_law, Rec.sums_tot RL_law]; exact hmem x)).symm
          go_wp2
          go_ret2
          rw [HR.out, HP.out]
          exact ⟨A4, cap4, rfl, hS4, hyc, hcm4, bel_adv hbel hb4⟩

end Go.Proofs.Ytnbfhnhneakajaa
