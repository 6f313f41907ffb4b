/- Contracts of payrollref26.Subtract and wage.Subtract: both hand back 'subR' and 'subErr'. Conditions: as stated. -/
import Derived.Test.YtlfefcfddpmccaaPlain2
import Derived.StillTailTactics
namespace Go.Proofs.Ytlfefcfddpmccaa
open Go.RowKit Go.Sort Go.Shelf Go.Maps

theorem any_iff {L : List Elem} (h : SortedE L) : L.any (fun x => !amtB x.amount) = true ↔ ∃ c, keyE L c = true ∧ amtB (totE L c) = false := by
  rw [List.any_eq_true]
  constructor
  · rintro ⟨x, hx, h2⟩
    rw [mem_sorted h] at hx
    exact ⟨_, hx.1, by rw [← hx.2]; simpa using h2⟩
  · rintro ⟨c, hc, h2⟩
    obtain ⟨x, hx, he⟩ := List.any_eq_true.1 hc
    have he' : x.code.data.toList = c := by simpa using he
    refine ⟨⟨x.code, totE L c⟩, ?_, by simp [h2]⟩
    rw [mem_sorted h]
    exact ⟨by show keyE L x.code.data.toList = true; rw [he']; exact hc, by show totE L c = totE L x.code.data.toList; rw [he']⟩
theorem filtered_eq {L ys : List Elem} (hL : SortedE L) (h : SortedE ys) (hm : ∀ x : Elem, x ∈ ys ↔ (keyE L x.code.data.toList = true ∧ x.amount = totE L x.code.data.toList ∧ x.amount ≠ 0)) : ys = L.filter nz := by
  refine sorted_ext h (hL.filter _) fun x => ?_
  rw [hm, List.mem_filter, mem_sorted hL]
  simp [nz, and_assoc]
theorem subL_take (X Y : List Elem) (k : Nat) (h : k < Y.length) : subL X (Y.take (k + 1)) = put (subL X (Y.take k)) (negE Y[k]) := by
  rw [subL, subL, List.take_succ_eq_append_getElem h, List.map_append, List.foldl_append]; rfl
theorem mergeR_len (xs : List Elem) : (mergeR xs).length ≤ 128 := by
  by_cases h0 : preErr xs = 0
  · have : xs.length ≤ 128 := by
      rcases Nat.lt_or_ge 128 xs.length with h1 | h1
      · rw [preErr, if_pos h1] at h0; cases h0
      · exact h1
    rw [mergeR, if_pos h0]
    exact Nat.le_trans (List.length_filter_le _ _) (Nat.le_trans (sumsP_length xs) this)
  · rw [mergeR, if_neg h0]; simp
theorem mergeR_bd {xs : List Elem} : Bdd 1000000000 (mergeR xs) := fun x hx => by
  have := mergeR_amt x hx
  simpa [amtB] using this
theorem mergeR_size {xs : List Elem} (hz : ∀ x ∈ xs, x.code.size ≤ maxLen) : ∀ x ∈ mergeR xs, x.code.size ≤ maxLen := fun x hx => by
  obtain ⟨y, hy, e⟩ := mergeR_codes hx
  rw [← e]; exact hz y hy

set_option maxRecDepth 100000 in
set_option maxHeartbeats 4000000 in
theorem sub26_any (A B : Option Addr) (c d : Nat) (xs ys : List Elem) (w : World) (h : SliceOf encE 2 w w.heap.size A xs) (hz : ∀ x ∈ xs, x.code.size ≤ maxLen) (hl : xs.length ≤ 9223372036854775806)
    (hy : SliceOf encE 2 w w.heap.size B ys) (hzy : ∀ x ∈ ys, x.code.size ≤ maxLen) (hly : ys.length ≤ 9223372036854775806) :
    Calls Try.prog 31 #[.slice A xs.length c, .slice B ys.length d] w fun r w' => ∃ v, r = .returned (.tuple #[v, .int .i64 (subErr xs ys)]) ∧ Own encE 2 44 w' w.heap.size v (subR xs ys) ∧ Below w.heap.size w w' := by
  have HZ := Lib.hid hz; clear hz
  have HZY := Lib.hid hzy; clear hzy
  have fail_ : ∀ (n : Int) (W : World), n ≠ 0 → subErr xs ys = n → Below w.heap.size w W → ∃ v, Ending.returned (.tuple #[.slice none 0 0, .int .i64 n]) = .returned (.tuple #[v, .int .i64 (subErr xs ys)]) ∧ Own encE 2 44 W w.heap.size v (subR xs ys) ∧ Below w.heap.size w W := by
    intro n W hn he hb
    refine ⟨.slice none 0 0, by rw [he], ?_, hb⟩
    rw [subR, if_neg (by rw [he]; exact hn)]
    exact Own.nil_ _ _
  have FAIL := Lib.hid fail_
  clear fail_
  go_enter Try.func31, Try.ntmps31
  go_wp2_with fail
  refine (merge26_any A c xs _ h HZ.out (by omega)).mono ?_
  rintro e w1 ⟨v1, rfl, hown1, hb1⟩
  by_cases h0 : preErr xs = 0
  · have H0 := Lib.hid h0
    rw [h0]
    clear h0
    go_wp2_with fail
    refine (merge26_any B d ys _ (hy.adv hb1) HZY.out (by omega)).mono ?_
    rintro e w2 ⟨v2, rfl, hown2, hb2⟩
    have hbel2 := bel_adv hb1 hb2
    by_cases h1 : preErr ys = 0
    · have H1 := Lib.hid h1
      rw [h1]
      clear h1
      have hown := hown1.adv hb2
      have hXb := mergeR_bd (xs := xs)
      have hYb := mergeR_bd (xs := ys)
      have hXl := mergeR_len xs
      have hYl := mergeR_len ys
      have HE : Hid (subErr xs ys = if (subL (mergeR xs) (mergeR ys)).any (fun x => !amtB x.amount) then 4 else 0) := by
        rw [Hid, subErr, if_neg (by simp [H0.out]), if_neg (by simp [H1.out])]
      have HR : Hid (subErr xs ys = 0 → subR xs ys = (subL (mergeR xs) (mergeR ys)).filter nz) := fun h => by rw [subR, if_pos h]
      generalize hXX : mergeR xs = X at *
      generalize hYY : mergeR ys = Y at *
      have HYB := Lib.hid hYb
      clear hXX hYY hown1 h hy hYb
      obtain ⟨A2, c2, rfl, hS2, hB2, hlc2, hcm2⟩ := hown2.form2 encE_len
      clear hown2
      go_wp2
      go_loopw [6, 10] (fun v i wr => ∃ k : Nat, k ≤ Y.length ∧ i = .int .i64 k ∧ Own encE 2 44 wr w.heap.size v (subL X (Y.take k)) ∧ Bdd (1000000000 + k * 1000000000) (subL X (Y.take k)) ∧ (subL X (Y.take k)).length ≤ X.length + k ∧ Below w2.heap.size w2 wr) (fun _ i _ => Y.length - (intOf i).toNat)
      case atStart => exact ⟨0, by omega, rfl, hown, (fun x hx => by have := hXb x hx; simp; omega), by simp [subL], Below.refl _ _⟩
      case round =>
        clear hown hXb
        obtain ⟨k, hk, rfl, hown, hbd, hlk, hbel⟩ := hrel
        have hbs := hbel.size
        by_cases hlt : k < Y.length
        · obtain ⟨A5, c5, rfl, hS5, hB5, hlc5, hcm5⟩ := hown.form2 encE_len
          obtain ⟨b, off, rfl, hb, hc⟩ := (hS2.below hbel).at_ hlt
          have c0 := hc 0 _ rfl
          have c1 := hc 1 _ rfl
          simp only [Nat.add_zero] at c0
          clear hc
          have hyk := HYB.out _ (List.getElem_mem hlt)
          obtain ⟨hyk1, hyk2⟩ := hyk
          have hi1 : (k : Int) < (Y.length : Int) := by omega
          go_wp2
          go_still_tail 13, (by kernel_rfl)
          change wpList _ _ _ _ _ wr.drew
          have hS5' : SliceOf encE 2 wr.drew wr.drew.heap.size A5 (subL X (Y.take k)) := hS5
          go_wp2_with fail
          refine (put_any A5 c5 (subL X (Y.take k)) (negE Y[k]) _ hS5' hlc5 hcm5 (by omega) (fun x hx => by have := hbd x hx; omega) (by show -1000000000000000 ≤ -Y[k].amount; omega) (by show -Y[k].amount ≤ 1000000000000000; omega)).mono ?_
          rintro e w3 ⟨v3, rfl, hown3, hb3⟩
          have hb3' : Below wr.heap.size wr w3 := ⟨hb3.os, hb3.tape, hb3.output, hb3.size, hb3.block⟩
          have hbel3 := bel_adv hbel hb3'
          have hown3' : Own encE 2 44 w3 w.heap.size v3 (subL X (Y.take (k + 1))) := by
            rw [subL_take X Y k hlt]; exact hown3.weaken (by show w.heap.size ≤ wr.heap.size; have := hbel2.size; omega)
          have hbd3 : Bdd (1000000000 + (k + 1 : Nat) * 1000000000) (subL X (Y.take (k + 1))) := by
            rw [subL_take X Y k hlt]
            have := hbd.put (C := 1000000000) (e := negE Y[k]) (by omega) (by omega) (by show -1000000000 ≤ -Y[k].amount; omega) (by show -Y[k].amount ≤ 1000000000; omega)
            intro x hx
            have := this x hx
            omega
          have hln3 : (subL X (Y.take (k + 1))).length ≤ X.length + (k + 1) := by
            rw [subL_take X Y k hlt]
            have := put_length (subL X (Y.take k)) (negE Y[k])
            omega
          go_wp2
          go_roundw
          case rel =>
            have hfin : ∃ k' : Nat, k' ≤ Y.length ∧ Value.int .i64 ((k : Int) + 1) = .int .i64 k' ∧ Own encE 2 44 w3 w.heap.size v3 (subL X (Y.take k')) ∧ Bdd (1000000000 + k' * 1000000000) (subL X (Y.take k')) ∧ (subL X (Y.take k')).length ≤ X.length + k' ∧ Below w2.heap.size w2 w3 := ⟨k + 1, by omega, by go_num, hown3', hbd3, hln3, hbel3⟩
            first | exact hfin | ((repeat apply Exists.intro); exact ⟨hfin, rfl⟩)
          case measure => simp [intOf]; omega
        · have ek : Y.take k = Y := List.take_of_length_le (by omega)
          rw [ek] at hown hbd hlk
          generalize hLL : subL X Y = L at *
          obtain ⟨A5, c5, rfl, hS5, hB5, hlc5, hcm5⟩ := hown.form2 encE_len
          have hbelw := bel_adv hbel2 hbel
          obtain ⟨wo, rfl⟩ : ∃ wo : World, wo = wr := ⟨_, rfl⟩
          have hLl : L.length ≤ 300 := by omega
          have hwo := hbelw.size
          clear ek hLL hown hbd hlk HYB hS2 hB2 hB5 hbel
          go_wp2
          clear hk hlt
          go_loopw [11, 12] (fun v i wr => ∃ k : Nat, k ≤ L.length ∧ i = .int .i64 k ∧ Hid (∀ j, (hj : j < L.length) → j < k → amtB L[j].amount = true) ∧ Own encE 2 44 wr wo.heap.size v ((L.take k).filter nz) ∧ Below wo.heap.size wo wr) (fun _ i _ => L.length - (intOf i).toNat)
          case atStart => exact ⟨0, by omega, rfl, fun j _ hj => absurd hj (by omega), Own.nil_ _ _, Below.refl _ _⟩
          case round =>
            obtain ⟨m, hm, rfl, hall, hown6, hbel⟩ := hrel
            have hbs := hbel.size
            have hbelw2 := bel_adv hbelw hbel
            by_cases hlt : m < L.length
            · obtain ⟨b, off, rfl, hb, hc⟩ := (hS5.below hbel).at_ hlt
              have c0 := hc 0 _ rfl
              have c1 := hc 1 _ rfl
              simp only [Nat.add_zero] at c0
              clear hc
              have et : L.take (m + 1) = L.take m ++ [L[m]] := List.take_succ_eq_append_getElem hlt
              have ET := Lib.hid et
              clear et
              have hfl : ((L.take m).filter nz).length ≤ m := Nat.le_trans (List.length_filter_le _ _) (by simp; omega)
              by_cases hn : amtB L[m].amount = true
              · have hall1 : ∀ j, (hj : j < L.length) → j < m + 1 → amtB L[j].amount = true := by
                  intro j hj hjk
                  rcases Nat.lt_or_ge j m with h1 | h1
                  · exact hall.out j hj h1
                  · obtain rfl : j = m := by omega
                    exact hn
                have HALL := Lib.hid hall1
                clear hall1
                by_cases hz : (L[m].amount != 0) = true
                · have HF : Hid (((L.take (m + 1)).filter nz) = (L.take m).filter nz ++ [⟨L[m].code, L[m].amount⟩]) := by
                    rw [Hid, ET.out, List.filter_append]; simp [nz, hz]
                  go_wp2_with (first | (go_at_call 39; refine (amount26_any _ _).mono ?_; rintro e w' ⟨rfl, rfl⟩) | (at_builtin; (refine wpList_append_one _ _ 38 ⟨L[m].code, L[m].amount⟩ _ 24 _ infoE Try.underlying38 hown6 encE_len (by omega) rfl (encE_one _) (by omega) (by omega) (by omega) (by rfl) (by rfl) (by rfl) (by rfl) (by simp) (by rfl) ?_); intro v2 w6 hown7 hg7))
                  have hr6 := fun q hq => (hown6.block_lt (g := q) hq).1
                  rw [← HF.out] at hown7
                  have hb7 : Below wo.heap.size wo w6 := bel_only hbel hg7 (fun g e => hr6 g e)
                  go_roundw
                  case rel =>
                    have hfin : ∃ k' : Nat, k' ≤ L.length ∧ Value.int .i64 ((m : Int) + 1) = .int .i64 k' ∧ Hid (∀ j, (hj : j < L.length) → j < k' → amtB L[j].amount = true) ∧ Own encE 2 44 w6 wo.heap.size v2 ((L.take k').filter nz) ∧ Below wo.heap.size wo w6 := ⟨m + 1, by omega, by go_num, HALL, hown7, hb7⟩
                    first | exact hfin | ((repeat apply Exists.intro); exact ⟨hfin, rfl⟩)
                  case measure => simp [intOf]; omega
                · have hz' : (L[m].amount != 0) = false := by simpa using hz
                  have HF : Hid (((L.take (m + 1)).filter nz) = (L.take m).filter nz) := by
                    rw [Hid, ET.out, List.filter_append]; simp [nz, hz']
                  clear hz
                  rw [← HF.out] at hown6
                  go_wp2_with (go_at_call 39; refine (amount26_any _ _).mono ?_; rintro e w' ⟨rfl, rfl⟩)
                  go_roundw
                  case rel =>
                    have hfin : ∃ k' : Nat, k' ≤ L.length ∧ Value.int .i64 ((m : Int) + 1) = .int .i64 k' ∧ Hid (∀ j, (hj : j < L.length) → j < k' → amtB L[j].amount = true) ∧ Own encE 2 44 wr wo.heap.size u11 ((L.take k').filter nz) ∧ Below wo.heap.size wo wr := ⟨m + 1, by omega, by go_num, HALL, hown6, hbel⟩
                    first | exact hfin | ((repeat apply Exists.intro); exact ⟨hfin, rfl⟩)
                  case measure => simp [intOf]; omega
              · have hn' : amtB L[m].amount = false := by simpa using hn
                have HP : Hid (subErr xs ys = 4) := by
                  have h4 : L.any (fun x => !amtB x.amount) = true := List.any_eq_true.2 ⟨L[m], List.getElem_mem _, by simp [hn']⟩
                  rw [Hid, HE.out, if_pos h4]
                clear hn
                go_wp2_with (go_at_call 39; refine (amount26_any _ _).mono ?_; rintro e w' ⟨rfl, rfl⟩)
                go_ret2
                exact FAIL.out 4 _ (by omega) HP.out hbelw2
            · have HP : Hid (subErr xs ys = 0) := by
                have h4 : L.any (fun x => !amtB x.amount) = false := by
                  rw [List.any_eq_false]
                  intro x hx
                  obtain ⟨j, hj, rfl⟩ := List.mem_iff_getElem.1 hx
                  simp [hall.out j hj (by omega)]
                rw [Hid, HE.out, if_neg (by simp [h4])]
              have ek : L.take m = L := List.take_of_length_le (by omega)
              rw [ek] at hown6
              have EK := Lib.hid ek
              clear ek
              go_wp2
              go_ret2
              refine ⟨_, by rw [HP.out]; rfl, ?_, hbelw2⟩
              rw [HR.out HP.out]
              exact hown6.weaken hwo
    · have h1' : (preErr ys != 0) = true := by simpa using h1
      have HE : Hid (subErr xs ys = preErr ys) := by rw [Hid, subErr, if_neg (by simp [H0.out]), if_pos h1]
      have H1 := Lib.hid h1
      clear h1
      go_wp2
      go_ret2
      exact FAIL.out _ _ H1.out HE.out hbel2
  · have h0' : (preErr xs != 0) = true := by simpa using h0
    have HE : Hid (subErr xs ys = preErr xs) := by rw [Hid, subErr, if_pos h0]
    have H0 := Lib.hid h0
    clear h0
    go_wp2
    go_ret2
    exact FAIL.out _ _ H0.out HE.out hb1

set_option maxRecDepth 100000 in
set_option maxHeartbeats 4000000 in
theorem sub_any (A B : Option Addr) (c d : Nat) (xs ys : List Elem) (w : World) (h : SliceOf encE 2 w w.heap.size A xs) (hz : ∀ x ∈ xs, x.code.size ≤ maxLen) (hl : xs.length ≤ 9223372036854775806)
    (hy : SliceOf encE 2 w w.heap.size B ys) (hzy : ∀ x ∈ ys, x.code.size ≤ maxLen) (hly : ys.length ≤ 9223372036854775806) :
    Calls Try.prog 30 #[.slice A xs.length c, .slice B ys.length d] w (MergePost (subR xs ys) (subErr xs ys) w) := by
  have HZ := Lib.hid hz; clear hz
  have HZY := Lib.hid hzy; clear hzy
  have fail_ : ∀ (n : Int) (W : World), n ≠ 0 → subErr xs ys = n → Below w.heap.size w W → MergePost (subR xs ys) (subErr xs ys) w (Ending.returned (.tuple #[.slice none 0 0, .int .i64 n])) W := by
    intro n W hn he hb
    have hm : subR xs ys = [] := by rw [subR, if_neg (by rw [he]; exact hn)]
    rw [hm, he]
    exact ⟨none, 0, rfl, SliceOf.nil_, by simp, by unfold maxLen; omega, hb⟩
  have FAIL := Lib.hid fail_
  clear fail_
  have hmm := @run_makeMap Try.prog
  go_enter Try.func30, Try.ntmps30
  go_wp2_with fail
  refine (merge_any A c xs _ h HZ.out (by omega)).mono ?_
  rintro e w1 ⟨A1, c1, rfl, hS1, hc1, hcm1, hb1⟩
  by_cases h0 : preErr xs = 0
  · have H0 := Lib.hid h0
    rw [h0]
    clear h0
    go_wp2_with fail
    refine (merge_any B d ys _ (hy.adv hb1) HZY.out (by omega)).mono ?_
    rintro e w2 ⟨A2, c2, rfl, hS2, hc2, hcm2, hb2⟩
    have hbel2 := bel_adv hb1 hb2
    by_cases h1 : preErr ys = 0
    · have H1 := Lib.hid h1
      rw [h1]
      clear h1
      have hX := hS1.adv hb2
      have hXb := mergeR_bd (xs := xs)
      have hYb := mergeR_bd (xs := ys)
      have hXl := mergeR_len xs
      have hYl := mergeR_len ys
      have HXa := Lib.hid (mergeR_amt (l := xs))
      have HYa := Lib.hid (mergeR_amt (l := ys))
      have HZX := Lib.hid (mergeR_size HZ.out)
      have HZ2 := Lib.hid (mergeR_size HZY.out)
      have HSL := Lib.hid (subL_facts (mergeR_sorted xs) (mergeR ys))
      have HE : Hid (subErr xs ys = if (subL (mergeR xs) (mergeR ys)).any (fun x => !amtB x.amount) then 4 else 0) := by
        rw [Hid, subErr, if_neg (by simp [H0.out]), if_neg (by simp [H1.out])]
      have HR : Hid (subErr xs ys = 0 → subR xs ys = (subL (mergeR xs) (mergeR ys)).filter nz) := fun h => by rw [subR, if_pos h]
      generalize hXX : mergeR xs = X at *
      generalize hYY : mergeR ys = Y at *
      have HXB := Lib.hid hXb
      have HYB := Lib.hid hYb
      clear hXX hYY hS1 h hy hYb hXb
      go_wp2
      have hmap0 : (w2.alloc (.map #[] 0)).ownsMap Try.prog 9 (plainElem (H := Unit) Try.prog 3) w2.heap.size 0 (.map []) := World.ownsMap_made _ _ _ _
      have hbel0 : Below w2.heap.size w2 (w2.alloc (.map #[] 0)) := below_new _ _
      go_loopw [33] (fun i wr => ∃ (k : Nat) (D : DataW Unit), k ≤ X.length ∧ i = .int .i64 k ∧ wr.ownsMap Try.prog 9 (plainElem (H := Unit) Try.prog 3) w2.heap.size k D ∧ MapD D (keyE (X.take k)) (totE (X.take k)) ∧ Below w2.heap.size w2 wr) (fun i _ => X.length - (intOf i).toNat)
      case atStart => exact ⟨0, .map [], by omega, rfl, hmap0, MapD.empty, hbel0⟩
      case round =>
        clear hmap0 hbel0
        obtain ⟨k, D, hk, rfl, hown, hD, hbel3⟩ := hrel
        have hbs3 := hbel3.size
        by_cases hlt : k < X.length
        · obtain ⟨b, off, rfl, hb, hc⟩ := (hX.below hbel3).at_ hlt
          have c0 := hc 0 _ rfl
          have c1 := hc 1 _ rfl
          simp only [Nat.add_zero] at c0
          clear hc
          have hzk := HZX.out _ (List.getElem_mem hlt)
          have hkey : keyOf Try.prog 9 (.string X[k].code) = some (key X[k].code) := WideMaps.keyOf_string_mk Try.underlying9 hzk
          have hown1 := hown.kept (World.grownBy_alloc wr (Obj.cells #[Value.string X[k].code, Value.int IntKind.i64 X[k].amount] 44) none) (by simp)
          have hTb := totE_bd (X.take k) X[k].code.data.toList (fun x hx => HXa.out x (List.mem_of_mem_take hx))
          have hTl : (X.take k).length ≤ 128 := by simp; omega
          have hxk := HXB.out _ (List.getElem_mem hlt)
          obtain ⟨hxk1, hxk2⟩ := hxk
          have hat0 := hD.at_ X[k].code.data.toList
          have hT1 : -1000000000000 ≤ totE (X.take k) X[k].code.data.toList := by omega
          have hT2 : totE (X.take k) X[k].code.data.toList ≤ 1000000000000 := by omega
          have hD1 := hD.put_ (K' := keyE (X.take (k + 1))) (T' := totE (X.take (k + 1))) X[k].code (totE (X.take k) X[k].code.data.toList + X[k].amount) (keyE_take X k hlt) (fun c => by
            rw [totE_take X k hlt]
            split
            · rename_i e; rw [← e]
            · omega)
          have HD1 := Lib.hid hD1
          have HAT := Lib.hid hat0
          generalize totE (X.take k) X[k].code.data.toList = t0 at hT1 hT2 HD1 HAT
          clear hTb hTl hat0 hD hD1
          go_wp2_with (first
            | (at_lookup; refine wpList_lookup_own_int _ (by rfl) _ _ 65 (by rfl) 9 3 .i64 lawS Try.underlying65 Try.underlying3 (zeroI _) w2.heap.size k D (by rfl) hown1 _ _ (by rfl) hkey ?_; intro c hat hwc; obtain rfl : c = t0 := (by have h1 := HAT.out; rw [show Lit.string X[k].code.data.toList = key X[k].code from rfl, hat] at h1; injection h1 with h1; injection h1))
            | (at_mapUpdate; refine wpList_mapUpdate_own _ (by rfl) _ _ _ 65 (by rfl) 9 3 lawS Try.underlying65 _ w2.heap.size k D (by rfl) hown1 (by unfold maxLen; omega) _ _ _ (by rfl) (by rfl) hkey _ [] (plainElem_int Try.underlying3 (wf64 (by omega) (by omega))) ?_; intro w1 hown2 hgrow1))
          go_roundw
          case rel => exact ⟨k + 1, _, by omega, by go_num, hown2, HD1.out, (hbel3.alloc hbs3 _).grown hgrow1 (by simp; omega) (fun g e => by injection e; omega)⟩
          case measure => simp [intOf]; omega
        · have ek : X.take k = X := List.take_of_length_le (by omega)
          rw [ek] at hD
          have hkX : k ≤ 128 := by omega
          obtain ⟨wo, rfl⟩ : ∃ wo : World, wo = wr := ⟨_, rfl⟩
          have hD0 : MapD D (fun c => keyE X c || keyE (Y.take 0) c) (fun c => totE X c - totE (Y.take 0) c) := by
            have e1 : (fun c => keyE X c || keyE (Y.take 0) c) = keyE X := by funext c; simp [keyE]
            have e2 : (fun c => totE X c - totE (Y.take 0) c) = totE X := by funext c; simp [totE]
            rw [e1, e2]; exact hD
          clear hD ek
          go_wp2
          go_loopw [47] (fun i wr => ∃ (m : Nat) (D : DataW Unit), m ≤ Y.length ∧ i = .int .i64 m ∧ wr.ownsMap Try.prog 9 (plainElem (H := Unit) Try.prog 3) w2.heap.size (k + m) D ∧ MapD D (fun c => keyE X c || keyE (Y.take m) c) (fun c => totE X c - totE (Y.take m) c) ∧ Below w2.heap.size w2 wr) (fun i _ => Y.length - (intOf i).toNat)
          case atStart => exact ⟨0, D, by omega, rfl, hown, hD0, hbel3⟩
          case round =>
            clear hown hD0 hbel3 hbs3
            obtain ⟨m, D, hm, rfl, hown, hD, hbel3⟩ := hrel
            have hbs3 := hbel3.size
            by_cases hltm : m < Y.length
            · obtain ⟨b, off, rfl, hb, hc⟩ := (hS2.below hbel3).at_ hltm
              have c0 := hc 0 _ rfl
              have c1 := hc 1 _ rfl
              simp only [Nat.add_zero] at c0
              clear hc
              have hzk := HZ2.out _ (List.getElem_mem hltm)
              have hkey : keyOf Try.prog 9 (.string Y[m].code) = some (key Y[m].code) := WideMaps.keyOf_string_mk Try.underlying9 hzk
              have hown1 := hown.kept (World.grownBy_alloc wr (Obj.cells #[Value.string Y[m].code, Value.int IntKind.i64 Y[m].amount] 44) none) (by simp)
              have hTb := totE_bd (Y.take m) Y[m].code.data.toList (fun x hx => HYa.out x (List.mem_of_mem_take hx))
              have hTx := totE_bd X Y[m].code.data.toList HXa.out
              have hTl : (Y.take m).length ≤ 128 := by simp; omega
              have hxk := HYB.out _ (List.getElem_mem hltm)
              obtain ⟨hxk1, hxk2⟩ := hxk
              have hat0 := hD.at_ Y[m].code.data.toList
              have hT1 : -1000000000000 ≤ totE X Y[m].code.data.toList - totE (Y.take m) Y[m].code.data.toList := by omega
              have hT2 : totE X Y[m].code.data.toList - totE (Y.take m) Y[m].code.data.toList ≤ 1000000000000 := by omega
              have hD1 := hD.put_ (K' := fun c => keyE X c || keyE (Y.take (m + 1)) c) (T' := fun c => totE X c - totE (Y.take (m + 1)) c) Y[m].code (totE X Y[m].code.data.toList - totE (Y.take m) Y[m].code.data.toList - Y[m].amount) (fun c => by rw [keyE_take Y m hltm, Bool.or_assoc]) (fun c => by
                rw [totE_take Y m hltm]
                split
                · rename_i e; rw [← e]; omega
                · omega)
              have HD1 := Lib.hid hD1
              have HAT := Lib.hid hat0
              generalize totE X Y[m].code.data.toList - totE (Y.take m) Y[m].code.data.toList = t0 at hT1 hT2 HD1 HAT
              clear hTb hTx hTl hat0 hD hD1
              go_wp2_with (first
                | (at_lookup; refine wpList_lookup_own_int _ (by rfl) _ _ 65 (by rfl) 9 3 .i64 lawS Try.underlying65 Try.underlying3 (zeroI _) w2.heap.size (k + m) D (by rfl) hown1 _ _ (by rfl) hkey ?_; intro c hat hwc; obtain rfl : c = t0 := (by have h1 := HAT.out; rw [show Lit.string Y[m].code.data.toList = key Y[m].code from rfl, hat] at h1; injection h1 with h1; injection h1))
                | (at_mapUpdate; refine wpList_mapUpdate_own _ (by rfl) _ _ _ 65 (by rfl) 9 3 lawS Try.underlying65 _ w2.heap.size (k + m) D (by rfl) hown1 (by unfold maxLen; omega) _ _ _ (by rfl) (by rfl) hkey _ [] (plainElem_int Try.underlying3 (wf64 (by omega) (by omega))) ?_; intro w1 hown2 hgrow1))
              go_roundw
              case rel => exact ⟨m + 1, _, by omega, by go_num, hown2, HD1.out, (hbel3.alloc hbs3 _).grown hgrow1 (by simp; omega) (fun g e => by injection e; omega)⟩
              case measure => simp [intOf]; omega
            · have ek : Y.take m = Y := List.take_of_length_le (by omega)
              rw [ek] at hD
              have hbelw := bel_adv hbel2 hbel3
              go_wp2_with fail
              refine (sumsG_any w2.heap.size (k + m) D _ _ _ hown hD (by omega)).mono ?_
              rintro e w4 ⟨hb4, ⟨hbad, rfl⟩ | ⟨hgood, A4, cap4, zs, rfl, hS4, hyn, hyc, hcm4, hzs, hmem⟩⟩
              · have HP : Hid (subErr xs ys = 4) := by
                  obtain ⟨s1, s2, s3⟩ := HSL.out
                  have h4 : (subL X Y).any (fun x => !amtB x.amount) = true := (any_iff s1).2 (by
                    obtain ⟨c, hc1, hc2⟩ := hbad
                    exact ⟨c, by rw [s3]; exact hc1, by rw [s2]; exact hc2⟩)
                  rw [Hid, HE.out, if_pos h4]
                go_wp2
                go_ret2
                exact FAIL.out 4 _ (by omega) HP.out (bel_adv hbelw hb4)
              · have HP : Hid (subErr xs ys = 0) := by
                  obtain ⟨s1, s2, s3⟩ := HSL.out
                  rw [Hid, HE.out, if_neg]
                  rw [any_iff s1]
                  rintro ⟨c, hc1, hc2⟩
                  rw [s3] at hc1
                  rw [s2, hgood c hc1] at hc2
                  cases hc2
                have HM : Hid (subR xs ys = zs) := by
                  obtain ⟨s1, s2, s3⟩ := HSL.out
                  rw [Hid, HR.out HP.out]
                  exact (filtered_eq s1 hzs (fun x => by rw [s2, s3]; exact hmem x)).symm
                go_wp2
                go_ret2
                rw [HM.out, HP.out]
                exact ⟨A4, cap4, rfl, hS4, hyc, hcm4, bel_adv hbelw hb4⟩
    · have h1' : (preErr ys != 0) = true := by simpa using h1
      have HE : Hid (subErr xs ys = preErr ys) := by rw [Hid, subErr, if_neg (by simp [H0.out]), if_pos h1]
      have H1 := Lib.hid h1
      clear h1
      go_wp2
      go_ret2
      exact FAIL.out _ _ H1.out HE.out hbel2
  · have h0' : (preErr xs != 0) = true := by simpa using h0
    have HE : Hid (subErr xs ys = preErr xs) := by rw [Hid, subErr, if_pos h0]
    have H0 := Lib.hid h0
    clear h0
    go_wp2
    go_ret2
    exact FAIL.out _ _ H0.out HE.out hb1

end Go.Proofs.Ytlfefcfddpmccaa
