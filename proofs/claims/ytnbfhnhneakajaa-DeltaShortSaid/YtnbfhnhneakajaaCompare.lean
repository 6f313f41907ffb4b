/- Contracts of payrollref34.Compare and payslip.Compare: both hand back 'cR' and 'cErr'. Conditions: as stated. -/
import Derived.Test.YtnbfhnhneakajaaMergeP
namespace Go.Proofs.Ytnbfhnhneakajaa
open Go.RowKit Go.Sort Go.Shelf Go.Maps Go.WideMaps Go.WideElems Go.ChangeMaps

theorem mErr_len {l : List LineT} (h : mErr l = 0) : l.length ≤ 65536 := by
  rcases Nat.lt_or_ge 65536 l.length with h1 | h1
  · rw [mErr, if_pos h1] at h; cases h
  · exact h1
theorem mErr_form {l : List LineT} (h : mErr l = 0) : ∀ x ∈ l, formB x = true := by
  have h2 : l.any (fun x => !formB x) = false := by
    cases hh : l.any (fun x => !formB x)
    · rfl
    · rw [mErr, if_neg (by have := mErr_len h; omega), hh, if_pos rfl] at h; cases h
  intro x hx
  rw [List.any_eq_false] at h2
  simpa using h2 x hx
theorem mErr_over {l : List LineT} (h : mErr l = 0) : anyOver (RL.sums l) = false := by
  have h1 := mErr_len h
  have h2 : l.any (fun x => !formB x) = false := by
    rw [List.any_eq_false]; intro x hx; simp [mErr_form h x hx]
  rw [mErr_cases l h1 h2] at h
  cases hh : anyOver (RL.sums l)
  · rfl
  · rw [hh, if_pos rfl] at h; cases h
theorem mR_len (l : List LineT) : (mR l).length ≤ 65536 := by
  rw [mR]; split
  · rename_i h
    have h1 := mErr_len h
    have h2 := List.length_filter_le RL.nz (RL.sums l)
    have h3 := Rec.sums_length (R := RL) l
    omega
  · simp
theorem mR_sorted (l : List LineT) : RL.Sorted (mR l) := by
  rw [mR]; split
  · exact (Rec.sums_sorted RL_law l).filter _
  · exact List.Pairwise.nil
theorem mR_key {l : List LineT} {x : LineT} (hx : x ∈ mR l) : mErr l = 0 ∧ ∃ y ∈ l, RL.key y = RL.key x := by
  rw [mR] at hx
  split at hx
  · rename_i h; exact ⟨h, Rec.sums_keys RL_law (List.mem_filter.1 hx).1⟩
  · cases hx
theorem mR_amt {l : List LineT} {x : LineT} (hx : x ∈ mR l) : maxN x.amount = true := by
  obtain ⟨h, _⟩ := mR_key hx
  rw [mR, if_pos h] at hx
  have h2 := mErr_over h
  rw [anyOver, List.any_eq_false] at h2
  simpa using h2 x (List.mem_filter.1 hx).1
theorem mR_form {l : List LineT} {x : LineT} (hx : x ∈ mR l) : formB x = true := by
  obtain ⟨h, y, hy, e⟩ := mR_key hx
  have h1 := mErr_form h y hy
  injection e with e1 e2
  have e3 : y.code = x.code := ba_ext e2
  have h2 := mR_amt hx
  simp only [formB, codeB, e1, e3, Bool.and_eq_true, decide_eq_true_eq] at h1 ⊢
  exact ⟨⟨⟨h1.1.1.1, h1.1.1.2⟩, h2⟩, h1.2⟩
theorem mR_size {l : List LineT} (hz : ∀ x ∈ l, x.code.size ≤ maxLen) : ∀ x ∈ mR l, x.code.size ≤ maxLen := fun x hx => by
  obtain ⟨_, y, hy, e⟩ := mR_key hx
  injection e with e1 e2
  rw [← ba_ext e2]; exact hz y hy
theorem cmpL_facts {x y : List LineT} (hy : RL.Sorted y) : RL.Sorted (cmpL x y) ∧ (∀ c, RL.tot (cmpL x y) c = RL.tot y c - RL.tot x c) ∧ ∀ c, RL.has (cmpL x y) c = (RL.has y c || RL.has x c) := by
  obtain ⟨h1, h2, h3⟩ := Rec.foldl_facts RL_law (x.map RL.neg) y hy
  refine ⟨h1, fun c => ?_, fun c => ?_⟩
  · rw [cmpL, h2, Rec.tot_neg RL_law]; omega
  · rw [cmpL, h3, Rec.has_neg RL_law]
theorem cmpL_take (X Y : List LineT) (k : Nat) (h : k < X.length) : cmpL (X.take (k + 1)) Y = RL.put (cmpL (X.take k) Y) (RL.neg X[k]) := by
  rw [cmpL, cmpL, List.take_succ_eq_append_getElem h, List.map_append, List.foldl_append]; rfl
theorem cErr_ok {a b : List LineT} (h0 : mErr a = 0) (h1 : mErr b = 0) : cErr a b = if anyOver (cmpL (mR a) (mR b)) then 4 else 0 := by
  rw [cErr, if_neg (by simp [h0]), if_neg (by simp [h1])]
theorem cR_nil {a b : List LineT} {n : Int} (h : cErr a b = n) (hn : n ≠ 0) : cR a b = [] := by rw [cR, if_neg (by rw [h]; exact hn)]

set_option maxRecDepth 100000 in
set_option maxHeartbeats 4000000 in
theorem compare34_any (A B : Option Addr) (c d : Nat) (xs ys : List LineT) (w : World) (h : SliceOf encL 3 w w.heap.size A xs) (hz : ∀ x ∈ xs, x.code.size ≤ maxLen) (hl : xs.length ≤ 9223372036854775806)
    (hy : SliceOf encL 3 w w.heap.size B ys) (hzy : ∀ x ∈ ys, x.code.size ≤ maxLen) (hly : ys.length ≤ 9223372036854775806) :
    Calls Try.prog 37 #[.slice A xs.length c, .slice B ys.length d] w fun r w' => ∃ v, r = .returned (.tuple #[v, .int .i64 (cErr xs ys)]) ∧ Own encL 3 56 w' w.heap.size v (cR xs ys) ∧ Below w.heap.size w w' := by
  have HZ := Lib.hid hz; clear hz
  have HZY := Lib.hid hzy; clear hzy
  have fail_ : ∀ (n : Int) (W : World), n ≠ 0 → cErr xs ys = n → Below w.heap.size w W → ∃ v, Ending.returned (.tuple #[.slice none 0 0, .int .i64 n]) = .returned (.tuple #[v, .int .i64 (cErr xs ys)]) ∧ Own encL 3 56 W w.heap.size v (cR xs ys) ∧ Below w.heap.size w W := by
    intro n W hn he hb
    refine ⟨.slice none 0 0, by rw [he], ?_, hb⟩
    rw [cR_nil he hn]
    exact Own.nil_ _ _
  have FAIL := Lib.hid fail_
  clear fail_
  go_enter Try.func37, Try.ntmps37
  go_wp2_with fail
  refine (merge34_any A c xs _ h HZ.out (by omega)).mono ?_
  rintro e w1 ⟨v1, rfl, hown1, hb1⟩
  by_cases h0 : mErr xs = 0
  · have H0 := Lib.hid h0
    rw [h0]
    clear h0
    go_wp2_with fail
    refine (merge34_any B d ys _ (hy.adv hb1) HZY.out (by omega)).mono ?_
    rintro e w2 ⟨v2, rfl, hown2, hb2⟩
    have hbel2 := bel_adv hb1 hb2
    by_cases h1 : mErr ys = 0
    · have H1 := Lib.hid h1
      rw [h1]
      clear h1
      have HE := Lib.hid (cErr_ok H0.out H1.out)
      have HR : Hid (cErr xs ys = 0 → cR xs ys = (cmpL (mR xs) (mR ys)).filter RL.nz) := fun h => by rw [cR, if_pos h]
      have HXB : Hid (∀ x ∈ mR xs, -1000000000000 ≤ x.amount ∧ x.amount ≤ 1000000000000) := fun x hx => form_amt (mR_form hx)
      have HYB : Hid (∀ x ∈ mR ys, -1000000000000 ≤ x.amount ∧ x.amount ≤ 1000000000000) := fun x hx => form_amt (mR_form hx)
      have hXl := mR_len xs
      have hYl := mR_len ys
      generalize hXX : mR xs = X at *
      generalize hYY : mR ys = Y at *
      clear hXX hYY h hy
      obtain ⟨A1, c1, rfl, hS1, hB1, hlc1, hcm1⟩ := (hown1.adv hb2).form2 encL_len
      clear hown1
      go_wp2
      go_loopw [8, 10] (fun v i wr => ∃ k : Nat, k ≤ X.length ∧ i = .int .i64 k ∧ Own encL 3 56 wr w.heap.size v (cmpL (X.take k) Y) ∧ RL.Bdd (1000000000000 + k * 1000000000000) (cmpL (X.take k) Y) ∧ (cmpL (X.take k) Y).length ≤ Y.length + k ∧ Below w2.heap.size w2 wr) (fun _ i _ => X.length - (intOf i).toNat)
      case atStart => exact ⟨0, by omega, rfl, hown2.weaken (by have := hb1.size; omega), (fun x hx => by have h2 := HYB.out x hx; have h3 : RL.amt x = x.amount := rfl; omega), by simp [cmpL], Below.refl _ _⟩
      case round =>
        clear hown2
        obtain ⟨k, hk, rfl, hown, hbd, hlk, hbel⟩ := hrel
        have hbs := hbel.size
        by_cases hlt : k < X.length
        · obtain ⟨A5, c5, rfl, hS5, hB5, hlc5, hcm5⟩ := hown.form2 encL_len
          obtain ⟨b, off, rfl, hb, hc⟩ := (hS1.below hbel).at_ hlt
          have c0 := hc 0 _ rfl
          have c1 := hc 1 _ rfl
          have c2 := hc 2 _ rfl
          simp only [Nat.add_zero] at c0
          clear hc
          have hxk := HXB.out _ (List.getElem_mem hlt)
          obtain ⟨hxk1, hxk2⟩ := hxk
          have hi1 : (k : Int) < (X.length : Int) := by omega
          have HBD := Lib.hid hbd
          go_wp2
          go_still_tail 18, (by kernel_rfl)
          change wpList _ _ _ _ _ wr.drew
          have hS5' : SliceOf encL 3 wr.drew wr.drew.heap.size A5 (cmpL (X.take k) Y) := hS5
          go_wp2_with fail
          refine (putL_any A5 c5 (cmpL (X.take k) Y) (RL.neg X[k]) _ hS5' hlc5 hcm5 (by omega) (fun x hx => by have h1 := HBD.out x hx; have h2 : RL.amt x = x.amount := rfl; omega) (by show -1000000000000000 ≤ -X[k].amount; omega) (by show -X[k].amount ≤ 1000000000000000; omega)).mono ?_
          rintro e w3 ⟨v3, rfl, hown3, hb3⟩
          have hb3' : Below wr.heap.size wr w3 := ⟨hb3.os, hb3.tape, hb3.output, hb3.size, hb3.block⟩
          have hbel3 := bel_adv hbel hb3'
          have hown3' : Own encL 3 56 w3 w.heap.size v3 (cmpL (X.take (k + 1)) Y) := by
            rw [cmpL_take X Y k hlt]; exact hown3.weaken (by show w.heap.size ≤ wr.heap.size; have := hbel2.size; omega)
          have hbd3 : RL.Bdd (1000000000000 + (k + 1 : Nat) * 1000000000000) (cmpL (X.take (k + 1)) Y) := by
            rw [cmpL_take X Y k hlt]
            have := Rec.Bdd.put RL_law HBD.out (C := 1000000000000) (e := RL.neg X[k]) (by omega) (by omega) (by show -1000000000000 ≤ -X[k].amount; omega) (by show -X[k].amount ≤ 1000000000000; omega)
            intro x hx
            have := this x hx
            omega
          have hln3 : (cmpL (X.take (k + 1)) Y).length ≤ Y.length + (k + 1) := by
            rw [cmpL_take X Y k hlt]
            have := Rec.put_length (R := RL) (cmpL (X.take k) Y) (RL.neg X[k])
            omega
          go_wp2
          go_roundw
          case rel =>
            have hfin : ∃ k' : Nat, k' ≤ X.length ∧ Value.int .i64 ((k : Int) + 1) = .int .i64 k' ∧ Own encL 3 56 w3 w.heap.size v3 (cmpL (X.take k') Y) ∧ RL.Bdd (1000000000000 + k' * 1000000000000) (cmpL (X.take k') Y) ∧ (cmpL (X.take k') Y).length ≤ Y.length + k' ∧ Below w2.heap.size w2 w3 := ⟨k + 1, by omega, by go_num, hown3', hbd3, hln3, hbel3⟩
            first | exact hfin | ((repeat apply Exists.intro); exact ⟨hfin, rfl⟩)
          case measure => simp [intOf]; omega
        · have ek : X.take k = X := List.take_of_length_le (by omega)
          rw [ek] at hown hbd hlk
          obtain ⟨A5, c5, rfl, hS5, hB5, hlc5, hcm5⟩ := hown.form2 encL_len
          have hbelw := bel_adv hbel2 hbel
          go_wp2_with fail
          refine (trim_any A5 c5 (cmpL X Y) _ hS5 (by omega)).mono ?_
          rintro e w3 ⟨v3, rfl, hown3, hb3⟩
          have hbel3 := bel_adv hbelw hb3
          rcases hov : anyOver (cmpL X Y) with _ | _
          · have HP : Hid (cErr xs ys = 0) := by rw [Hid, HE.out, hov]; rfl
            have HR2 : Hid (cR xs ys = trimR (cmpL X Y)) := by rw [Hid, HR.out HP.out, trimR, hov]; rfl
            go_wp2
            go_ret2
            refine ⟨_, by rw [HP.out]; rfl, ?_, hbel3⟩
            rw [HR2.out]
            exact hown3.weaken hbelw.size
          · have HP : Hid (cErr xs ys = 4) := by rw [Hid, HE.out, hov]; rfl
            go_wp2
            go_ret2
            exact FAIL.out 4 _ (by omega) HP.out hbel3
    · have h1' : (mErr ys != 0) = true := by simpa using h1
      have HE : Hid (cErr xs ys = mErr ys) := by rw [Hid, cErr, if_neg (by simp [H0.out]), if_pos h1]
      have H1 := Lib.hid h1
      clear h1
      go_wp2
      go_ret2
      exact FAIL.out _ _ H1.out HE.out hbel2
  · have h0' : (mErr xs != 0) = true := by simpa using h0
    have HE : Hid (cErr xs ys = mErr xs) := by rw [Hid, cErr, if_pos h0]
    have H0 := Lib.hid h0
    clear h0
    go_wp2
    go_ret2
    exact FAIL.out _ _ H0.out HE.out hb1

end Go.Proofs.Ytnbfhnhneakajaa
