/- The walk of payrolllaw37.DeltaNothing: it returns true and turns nothing that was there. Conditions: as stated. -/
import Derived.Test.YtnbfhnhneakajaaPosts
import Derived.Test.YtnbfhnhneakajaaData3
namespace Go.Proofs.Ytnbfhnhneakajaa
open Go.RowKit

theorem mErr_ok {xs : List LineT} (h : ∀ x ∈ xs, LineOk x) (hl : xs.length ≤ 100) : mErr xs = 0 := by
  have h1 : xs.any (fun x => !formB x) = false := by
    rw [List.any_eq_false]; intro x hx; simp [(h x hx).form]
  have hb : ∀ x ∈ xs, -600000 ≤ RL.amt x ∧ RL.amt x ≤ 600000 := fun x hx => ⟨(h x hx).lo, (h x hx).hi⟩
  rw [mErr_cases xs (by omega) h1]
  have h4 : anyOver (RL.sums xs) = false := by
    cases hh : anyOver (RL.sums xs)
    · rfl
    · obtain ⟨c, _, hc2⟩ := (Rec.any_iff RL_law maxN (Rec.sums_sorted RL_law xs)).1 hh
      rw [Rec.sums_tot RL_law] at hc2
      have := Rec.tot_bd (R := RL) xs c 600000 (by omega) hb
      simp [maxN] at hc2
      omega
  rw [h4]; rfl
theorem mR_tot {l : List LineT} (h : mErr l = 0) (c : Int × List UInt8) : RL.tot (mR l) c = RL.tot l c := by
  rw [mR, if_pos h, Rec.tot_filter, Rec.sums_tot RL_law]
/-- Two lists with the same sums have no differences. -/
theorem no_diff {a b : List LineT} (ha : mErr a = 0) (hb : mErr b = 0) (h : ∀ c, RL.tot a c = RL.tot b c) : cErr a b = 0 ∧ cR a b = [] := by
  obtain ⟨s1, s2, s3⟩ := cmpL_facts (x := mR a) (mR_sorted b)
  have ht : ∀ c, RL.tot (cmpL (mR a) (mR b)) c = 0 := fun c => by rw [s2, mR_tot ha, mR_tot hb, h]; omega
  have h4 : anyOver (cmpL (mR a) (mR b)) = false := by
    cases hh : anyOver (cmpL (mR a) (mR b))
    · rfl
    · obtain ⟨c, _, hc2⟩ := (Rec.any_iff RL_law maxN s1).1 hh
      rw [ht] at hc2
      cases hc2
  have he : cErr a b = 0 := by rw [cErr_ok ha hb, h4]; rfl
  refine ⟨he, ?_⟩
  rw [cR, if_pos he, List.filter_eq_nil_iff]
  intro x hx
  have := (Rec.mem_sorted RL_law s1 x).1 hx
  rw [Rec.mem_nz, this.2, ht]; simp
theorem pR_no {a b : List LineT} (ha : mErr a = 0) (hb : mErr b = 0) (h : ∀ c, RL.tot a c = RL.tot b c) : pErr 1 1 0 a b = 0 ∧ pR 1 1 0 a b = [] := by
  obtain ⟨h1, h2⟩ := no_diff ha hb h
  have he : pErr 1 1 0 a b = 0 := by rw [pErr, if_neg (by simp [h1])]; rfl
  exact ⟨he, by rw [pR, if_pos he, h2]; rfl⟩
theorem tot_rot (xs : List LineT) (k : Nat) (c : Int × List UInt8) : RL.tot (xs.drop k ++ xs.take k) c = RL.tot xs c := by
  have h1 := Rec.tot_append (R := RL) (xs.take k) (xs.drop k) c
  rw [List.take_append_drop] at h1
  rw [Rec.tot_append, h1]; omega
/-- What the merged list is like: merging it anew changes nothing. -/
theorem merr_mR {xs : List LineT} (h : ∀ x ∈ xs, LineOk x) (hl : xs.length ≤ 100) : mErr (mR xs) = 0 := by
  have h0 := mErr_ok h hl
  have hlen : (mR xs).length ≤ 100 := by
    rw [mR, if_pos h0]
    have h2 := List.length_filter_le RL.nz (RL.sums xs)
    have h3 := Rec.sums_length (R := RL) xs
    omega
  have h1 : (mR xs).any (fun x => !formB x) = false := by
    rw [List.any_eq_false]; intro x hx; simp [mR_form hx]
  rw [mErr_cases _ (by omega) h1]
  have h4 : anyOver (RL.sums (mR xs)) = false := by
    cases hh : anyOver (RL.sums (mR xs))
    · rfl
    · obtain ⟨c, _, hc2⟩ := (Rec.any_iff RL_law maxN (Rec.sums_sorted RL_law (mR xs))).1 hh
      rw [Rec.sums_tot RL_law, mR_tot h0] at hc2
      have := Rec.tot_bd (R := RL) xs c 600000 (by omega) (fun x hx => ⟨(h x hx).lo, (h x hx).hi⟩)
      simp [maxN] at hc2
      omega
  rw [h4]; rfl

set_option maxRecDepth 100000 in
set_option maxHeartbeats 800000 in
theorem nothing_walk (B : Option Addr) (lcap : Nat) (l : List Int) (turn : Int) (w : World)
    (hI : SliceOf encI 1 w w.heap.size B l) (hIl : l.length ≤ 9223372036854775807) (hIb : ∀ x ∈ l, I64 x) :
    Calls Try.prog 6 #[.slice B l.length lcap, .int .i64 turn] w fun e w' => e = .returned (.bool true) ∧ Below w.heap.size w w' := by
  go_enter Try.func6, Try.ntmps6
  go_wp2_with fail
  refine (new_any B l lcap _ hI hIl hIb).mono ?_
  rintro e w1 ⟨rfl, hd1, hb1⟩
  have hs1 := hd1.lt
  go_wp2_with fail
  refine (lines_any w.heap.size 0 8 _ (by omega) (by omega) hd1).mono ?_
  rintro e w2 ⟨v2, xs, rfl, hl2, hx2, hown2, hd2, hg2⟩
  obtain ⟨A2, c2, rfl, hS2, hB2, hlc2, hcm2⟩ := hown2.form2 encL_len
  have hbel2 := bel_only hb1 hg2 (fun g e => by injection e; omega)
  have HX := Lib.hid hx2
  clear hd1 hd2 hg2 hb1 hI hIb hx2
  by_cases h0 : xs.length = 0
  · have h0' : ((xs.length : Int) == 0) = true := by simp [h0]
    clear h0
    go_wp2_with fail
    refine (awake_any _).mono ?_
    rintro e w3 ⟨rfl, hb3⟩
    go_wp2
    go_ret
    exact ⟨rfl, bel_adv hbel2 hb3⟩
  · have h0' : ((xs.length : Int) == 0) = false := by simp; intro e; simp [e] at h0
    have hpos : 0 < xs.length := by omega
    clear h0
    go_wp2_with fail
    refine (mod_any _ _ _ (by omega) (by omega)).mono ?_
    rintro e w' ⟨rfl, rfl⟩
    generalize hr : (turn % (xs.length : Int)) = r
    have hr0 : 0 ≤ r := by rw [← hr]; exact Int.emod_nonneg _ (by omega)
    have hr1 : r < xs.length := by rw [← hr]; exact Int.emod_lt_of_pos _ (by omega)
    obtain ⟨k, rfl⟩ := Int.eq_ofNat_of_zero_le hr0
    have hk : k < xs.length := by omega
    clear hr
    go_upto_region 5 with fail
    have hkl : k ≤ xs.length := by omega
    have hkc2 : k ≤ c2 := by omega
    have hkc : ¬ c2 = k := by omega
    obtain ⟨b, off, rfl, hb, _⟩ := hS2.at_ hpos
    have hadd : (⟨b, off, none⟩ : Addr).add (k * 3) = ⟨b, off + k * 3, none⟩ := by unfold Addr.add; split <;> simp_all
    have hO0 : Own encL 3 56 (w2.alloc (.cells #[] 56)).drew w2.heap.size (.slice (some ⟨w2.heap.size, 0, none⟩) 0 0) ([] : List LineT) := Own.lit encL_len w2 [] #[] 56 rfl (by simp) (Nat.le_refl _)
    have hD0 : SliceOf encL 3 (w2.alloc (.cells #[] 56)).drew w2.heap.size (some ⟨b, off + k * 3, none⟩) (xs.drop k) := by
      have := (hS2.below (below_new w2 (.cells #[] 56))).cut (i := k) (cap := c2) (by omega) (by omega)
      rw [if_neg hkc] at this
      simp only [Option.map_some, hadd] at this
      exact this
    have hT0 : SliceOf encL 3 (w2.alloc (.cells #[] 56)).drew w2.heap.size (some ⟨b, off, none⟩) (xs.take k) := (hS2.below (below_new w2 _)).take k
    have hlk : xs.length - k = (xs.drop k).length := by simp
    have hltk : k = (xs.take k).length := by simp; omega
    have HLK := Lib.hid hlk
    have HLT := Lib.hid hltk
    clear hlk hltk
    have s1 : ([] : List LineT).length + (xs.drop k).length ≤ 4294967296 := by simp; omega
    have s2 : w2.heap.size ≤ (w2.alloc (.cells #[] 56)).drew.heap.size := by show w2.heap.size ≤ (w2.heap.push _).size; simp
    have s3 : ([] ++ xs.drop k).length + (xs.take k).length ≤ 4294967296 := by simp; omega
    have hT7 : ∀ w7, (w2.alloc (.cells #[] 56)).drew.grownBy w7 (Value.slice (some ⟨w2.heap.size, 0, none⟩) 0 0).ownBlock → w2.heap.size ≤ w7.heap.size ∧ SliceOf encL 3 w7 w2.heap.size (some ⟨b, off, none⟩) (xs.take k) := fun w7 hg7 => ⟨by have := hg7.size; omega, hT0.below (hO0.below_of hg7 s2)⟩
    have S1 := Lib.hid s1
    have S2 := Lib.hid s2
    have S3 := Lib.hid s3
    have H0 := Lib.hid hO0
    have HD0 := Lib.hid hD0
    have HT7 := Lib.hid hT7
    clear s1 s2 s3 hO0 hD0 hT7 hT0
    go_region_law (first
      | (refine step_append_list (xs := []) (ys := xs.drop k) (.tmp 25) (.tmp 28) 23 (c2 - k) 32 _ infoL Try.underlying23 H0.out HD0.out encL_len (by decide) rfl encL_one S1.out (by decide) S2.out rfl rfl (by simp [Act.eval]) (by simp [Act.eval]) HLK.out ?_; intro v7 w7 hown7 hg7; have hT7 := HT7.out w7 hg7; have H7 := Lib.hid hT7; have HO7 := Lib.hid hown7; have HG7 := Lib.hid hg7; clear hown7 hg7 hT7)
      | (refine step_append_list (ys := xs.take k) (.tmp 29) (.tmp 32) 23 c2 32 _ infoL Try.underlying23 HO7.out H7.out.2 encL_len (by decide) rfl encL_one S3.out (by decide) H7.out.1 rfl rfl (by simp [Act.eval]) (by simp [Act.eval]) HLT.out ?_; intro v8 w8 hown8 hg8))
    have hbn : Below w2.heap.size w2 (w2.alloc (.cells #[] 56)).drew := below_drewN (below_new w2 _) 1
    have hbel8 : Below w2.heap.size w2 w8 := (hbn.trans (H0.out.below_of HG7.out S2.out)).trans (HO7.out.below_of hg8 H7.out.1)
    obtain ⟨A8, c8, rfl, hS8, hB8, hlc8, hcm8⟩ := hown8.form2 encL_len
    have hX8 := hS2.adv hbel8
    have hbW8 := bel_adv hbel2 hbel8
    have HZ := Lib.hid (lines_size HX.out)
    have HM := Lib.hid (mErr_ok HX.out (by omega))
    have HMM := Lib.hid (merr_mR HX.out (by omega))
    have HMT := Lib.hid (fun c => mR_tot HM.out c)
    clear H0 HO7 HG7 H7 HT7 HD0 S1 S2 S3 hg8 hown8 hB8 hbel8 hbel2 hS2 hadd hb HLK HLT hown2 hB2
    have hys : [] ++ xs.drop k ++ xs.take k = xs.drop k ++ xs.take k := rfl
    rw [hys] at hS8 hlc8 ⊢
    clear hys
    have hyl : (xs.drop k ++ xs.take k).length ≤ 8 := by simp; omega
    have HYX : Hid (∀ x ∈ xs.drop k ++ xs.take k, LineOk x) := fun x hx => by
      rcases List.mem_append.1 hx with h | h
      · exact HX.out x (List.mem_of_mem_drop h)
      · exact HX.out x (List.mem_of_mem_take h)
    have HYM := Lib.hid (mErr_ok HYX.out (by omega))
    have HYZ := Lib.hid (lines_size HYX.out)
    have HYT := Lib.hid (fun c => tot_rot xs k c)
    generalize xs.drop k ++ xs.take k = ys at *
    have HP1 := Lib.hid (pR_no HM.out HYM.out (fun c => (HYT.out c).symm))
    have HP2 := Lib.hid (pR_no HMM.out HM.out HMT.out)
    have HMZ := Lib.hid (mR_size HZ.out)
    have hml := mR_len xs
    go_wp2_with fail
    refine (merge34_any _ c2 xs _ hX8 HZ.out (by omega)).mono ?_
    rintro e w9 ⟨v9, rfl, hown9, hb9⟩
    obtain ⟨A9, c9, rfl, hS9, hB9, hlc9, hcm9⟩ := hown9.form2 encL_len
    generalize mR xs = ms at *
    rw [HM.out]
    go_wp2_with fail
    refine (postings_any 1 1 0 _ A8 c2 c8 xs ys _ (hX8.adv hb9) HZ.out (by omega) (hS8.adv hb9) HYZ.out (by omega)).mono ?_
    rw [HP1.out.1, HP1.out.2]
    rintro e w10 ⟨v10, rfl, hown10, hb10⟩
    obtain ⟨A10, c10, rfl, hS10, hB10, hlc10, hcm10⟩ := hown10.form2 encP_len
    go_wp2_with fail
    refine (postings_any 1 1 0 A9 _ c9 c2 ms xs _ (hS9.adv hb10) HMZ.out (by omega) ((hX8.adv hb9).adv hb10) HZ.out (by omega)).mono ?_
    rw [HP2.out.1, HP2.out.2]
    rintro e w11 ⟨v11, rfl, hown11, hb11⟩
    obtain ⟨A11, c11, rfl, hS11, hB11, hlc11, hcm11⟩ := hown11.form2 encP_len
    have hbel11 := bel_adv (bel_adv (bel_adv hbW8 hb9) hb10) hb11
    clear hS8 hS9 hS10 hS11 hX8 hown9 hown10 hown11 hb9 hb10 hb11 hB9 hB10 hB11
    go_wp2_with fail
    refine (awake_any _).mono ?_
    rintro e w13 ⟨rfl, hb13⟩
    go_wp2
    go_ret
    exact ⟨rfl, bel_adv hbel11 hb13⟩

end Go.Proofs.Ytnbfhnhneakajaa
