/- The walk of payrolllaw44.LedgerDivides: it returns true and turns nothing that was there. Conditions: as stated. -/
import Derived.Test.YtbiajkknpkeeoaaAwake44
import Derived.Test.YtbiajkknpkeeoaaTrial
import Derived.Test.YtbiajkknpkeeoaaAsOf
import Derived.Test.YtbiajkknpkeeoaaBookOk
import Derived.Test.YtbiajkknpkeeoaaSame44
import Derived.Deep.RegionHeld3
namespace Go.Proofs.Ytbiajkknpkeeoaa
open Go.RowKit

/-- Entries at a slice whose length is told. -/
theorem Entries_n (A B : Option Addr) (cap bcap n : Nat) (l : List PostT) (w : World) (h : SliceOf encW 6 w w.heap.size A wages8)
    (hy : SliceOf encP 6 w w.heap.size B l) (hok : BookOk 12 l) (hl : l.length ≤ 24) (hn : l.length = n) :
    Calls Try.prog 12 #[.slice A wages8.length cap, .slice B n bcap] w (BPost (mRB (entAll wages8 l)) 0 w) := by
  subst hn
  have := Entries_any A B cap bcap wages8 l w h wages8_size (by rw [wages8_len]; omega) hy hok.size (by omega)
  rw [(hok.ent (by omega) (by omega)).1, (hok.ent (by omega) (by omega)).2] at this
  exact this

/-- What the second half's entries leave. -/
def HalfAt (ys : List PostT) (m : Nat) (w : World) (v9 v10 : Value) (wx : World) : Prop := ∃ A9 c9, v9 = .slice A9 (mRB (entAll wages8 (ys.drop m))).length c9 ∧ v10 = .int .i64 0 ∧ SliceOf encB 3 wx wx.heap.size A9 (mRB (entAll wages8 (ys.drop m))) ∧ (mRB (entAll wages8 (ys.drop m))).length ≤ c9 ∧ c9 ≤ maxLen ∧ Below w.heap.size w wx

set_option maxRecDepth 100000 in
set_option maxHeartbeats 8000000 in
theorem divides44_walk (B : Option Addr) (lcap : Nat) (n : Int) (l : List Int) (w : World) (hI : SliceOf encI 1 w w.heap.size B l) (hIl : l.length ≤ 9223372036854775807) (hIb : ∀ x ∈ l, I64 x) :
    Calls Try.prog 6 #[.slice B l.length lcap, .int .i64 n] w fun e w' => e = .returned (.bool true) ∧ Below w.heap.size w w' := by
  go_enter Try.func6, Try.ntmps6
  go_wp2_with fail
  refine (new_any B l lcap _ hI hIl hIb).mono ?_
  rintro e w1 ⟨rfl, hdk1, hb1⟩
  clear hIb
  go_wp2_with fail
  refine (bookOk_any _ 0 6 _ (by omega) (by omega) hdk1).mono ?_
  rintro e w2 ⟨v2, ys, rfl, hyl, hok0, hown2, _, hg2⟩
  have hok : BookOk 12 ys := hok0.mono (by omega)
  have hb2 : Below w.heap.size w w2 := bel_only hb1 hg2 (fun g e => by injection e; omega)
  obtain ⟨A2, c2, rfl, hS2, hB2, hlc2, hcm2⟩ := hown2.form2 encP_len
  have hS2' := hS2.more (B' := w2.heap.size) (by first | exact Nat.le_refl _ | omega)
  have HOK := Lib.hid hok
  clear hS2 hB2 hown2 hg2 hdk1 hb1 hI hok0 hok
  go_wp2_with fail
  refine (mod_any _ _ _ (by omega) (by omega)).mono ?_
  rintro e w3 ⟨rfl, rfl⟩
  generalize n % 12 = r
  go_wp2_with fail
  refine (asOf_any A2 c2 ys r _ hS2' (by omega) HOK.out.size (HOK.out.book (by omega) (by omega))).mono ?_
  rintro e w4 ⟨v4, rfl, hown4, hb4⟩
  obtain ⟨m, hm, hF⟩ := upto_prefix r ys HOK.out.asc
  rw [hF] at hown4
  obtain ⟨A4, c4, rfl, hS4, hB4, hlc4, hcm4⟩ := hown4.form2 encP_len
  have hml : (ys.take m).length = m := by simp; omega
  rw [hml] at hlc4 ⊢
  have hS24 := hS2'.adv hb4
  have hbel4 := bel_adv hb2 hb4
  have HML := Lib.hid hml
  have HO1 := Lib.hid (HOK.out.sub (List.take_sublist m ys))
  have HO2 := Lib.hid (HOK.out.sub (List.drop_sublist m ys))
  have HSM : Hid (SmallB (entAll wages8 (ys.take m) ++ entAll wages8 (ys.drop m))) := by
    have h1 := HOK.out.small (by omega) (show ys.length ≤ 100 by omega)
    rw [← List.take_append_drop m ys, entAll, List.flatMap_append] at h1
    exact h1
  have HEQ : Hid (entAll wages8 ys = entAll wages8 (ys.take m) ++ entAll wages8 (ys.drop m)) := by
    rw [Hid, entAll, entAll, entAll, ← List.flatMap_append, List.take_append_drop]
  clear hS2' hown4 hB4 hb4 hb2 hml hF
  go_wp2_with fail
  refine (wages44_any _).mono ?_
  rintro e w5 ⟨A5, c5, rfl, hS5, hb5⟩
  go_wp2_with fail
  refine (Entries_n A5 A4 c5 c4 m (ys.take m) _ hS5 (hS4.adv hb5) HO1.out (by rw [HML.out]; omega) HML.out).mono ?_
  rintro e w6 ⟨A6, c6, rfl, hS6, hlc6, hcm6, hb6⟩
  have hS26 := (hS24.adv hb5).adv hb6
  have hbel6 := bel_adv (bel_adv hbel4 hb5) hb6
  clear hS5 hb5 hb6 hS4 hS24 hbel4
  go_upto_region 4 with fail
  go_cut [9, 10] (fun v9 v10 wx => HalfAt ys m w6 v9 v10 wx)
  case first =>
    have HLD : Hid ((ys.drop m).length = ys.length - m) := by simp [Hid]
    have hcut := hS26.cut (i := m) (cap := c2) hm hlc2
    have hkc2 : m ≤ c2 := by omega
    rcases A2 with _ | ⟨b, off, q⟩
    · have hy0 : ys = [] := by
        rcases ys with _ | ⟨y, yy⟩
        · rfl
        · obtain ⟨b, off, hA, _⟩ := hS26 (by simp)
          cases hA
      clear hcut
      have hcut : SliceOf encP 6 w6 w6.heap.size none (ys.drop m) := by rw [hy0, List.drop_nil]; exact SliceOf.nil_
      clear hy0
      have hcut2 : SliceOf encP 6 w6.drew w6.drew.heap.size _ (ys.drop m) := hcut
      go_region_held3 (fun _ => True) (trivial)
        (first | (go_at_call 13; refine (wages44_any _).mono ?_; rintro e w8 ⟨A8, c8, rfl, hS8, hb8⟩)
               | (go_at_call 12; refine (Entries_n A8 none c8 _ (ys.length - m) (ys.drop m) _ hS8 (hcut2.adv hb8) HO2.out (by rw [HLD.out]; omega) HLD.out).mono ?_; rintro e w10 ⟨A10, c10, rfl, hS10, hlc10, hcm10, hb10⟩))
      go_wp2_with fail
      go_meet
      exact ⟨A10, c10, rfl, rfl, hS10, hlc10, hcm10, below_drewN (Below.refl _ _) 1 |>.trans (bel_adv hb8 hb10)⟩
    · by_cases hkc : c2 = m
      · have hkc' := hkc.symm
        clear hkc
        subst hkc'
        rw [if_pos rfl] at hcut
        have hcut2 : SliceOf encP 6 w6.drew w6.drew.heap.size _ (ys.drop m) := hcut
        go_region_held3 (fun _ => True) (trivial)
          (first | (go_at_call 13; refine (wages44_any _).mono ?_; rintro e w8 ⟨A8, c8, rfl, hS8, hb8⟩)
                 | (go_at_call 12; refine (Entries_n A8 (some ⟨b, off, q⟩) c8 _ 0 (ys.drop m) _ hS8 (hcut2.adv hb8) HO2.out (by rw [HLD.out]; omega) (by rw [HLD.out]; omega)).mono ?_; rintro e w10 ⟨A10, c10, rfl, hS10, hlc10, hcm10, hb10⟩))
        go_wp2_with fail
        go_meet
        exact ⟨A10, c10, rfl, rfl, hS10, hlc10, hcm10, below_drewN (Below.refl _ _) 1 |>.trans (bel_adv hb8 hb10)⟩
      · rw [if_neg hkc] at hcut
        simp only [Option.map_some] at hcut
        have hcut2 : SliceOf encP 6 w6.drew w6.drew.heap.size _ (ys.drop m) := hcut
        go_region_held3 (fun _ => True) (trivial)
          (first | (go_at_call 13; refine (wages44_any _).mono ?_; rintro e w8 ⟨A8, c8, rfl, hS8, hb8⟩)
                 | (go_at_call 12; refine (Entries_n A8 (some ((⟨b, off, q⟩ : Addr).add (m * 6))) c8 _ (ys.length - m) (ys.drop m) _ hS8 (hcut2.adv hb8) HO2.out (by rw [HLD.out]; omega) HLD.out).mono ?_; rintro e w10 ⟨A10, c10, rfl, hS10, hlc10, hcm10, hb10⟩))
        go_wp2_with fail
        go_meet
        exact ⟨A10, c10, rfl, rfl, hS10, hlc10, hcm10, below_drewN (Below.refl _ _) 1 |>.trans (bel_adv hb8 hb10)⟩
  case rest =>
    obtain ⟨A9, c9, rfl, rfl, hS9, hlc9, hcm9, hb9⟩ := hcut
    have hS69 := hS6.adv hb9
    have hS29 := hS26.adv hb9
    have hbel9 := bel_adv hbel6 hb9
    clear hS6 hS26 hbel6 hb9
    go_wp2_with fail
    refine (wages44_any _).mono ?_
    rintro e w11 ⟨A11, c11, rfl, hS11, hb11⟩
    go_wp2_with fail
    refine (Entries_n A11 A2 c11 c2 ys.length ys _ hS11 (hS29.adv hb11) HOK.out (by omega) rfl).mono ?_
    rintro e w12 ⟨A12, c12, rfl, hS12, hlc12, hcm12, hb12⟩
    have b12 := bel_adv hb11 hb12
    have hS6c := hS69.adv b12
    have hS9c := hS9.adv b12
    have hbel12 := bel_adv hbel9 b12
    clear hS11 hb11 hb12 hS69 hS29 hS9 hbel9 b12
    have HD1 := Lib.hid (div_merge HSM.out)
    have HD2 := Lib.hid (div_trial HSM.out)
    rw [HEQ.out] at hS12 hlc12 ⊢
    have l1 := mRB_len (entAll wages8 (ys.take m))
    have l2 := mRB_len (entAll wages8 (ys.drop m))
    have l3 := mRB_len (entAll wages8 (ys.take m) ++ entAll wages8 (ys.drop m))
    clear HSM HEQ HO1 HO2 HOK HML
    generalize entAll wages8 (ys.take m) = X at *
    generalize entAll wages8 (ys.drop m) = Y at *
    generalize mRB (X ++ Y) = m3 at *
    generalize mRB X = m1 at *
    generalize mRB Y = m2 at *
    have HD4 : Hid (mErrB (m2 ++ m1) = 0) := HD1.out.1
    have HD5 : Hid (mRB (m2 ++ m1) = m3) := HD1.out.2
    have l4 : (m2 ++ m1).length ≤ 262144 := by simp; omega
    have l5 : (m1 ++ m2).length ≤ 262144 := by simp; omega
    have hlit2 := Own.lit encB_len w12 ([] : List BookT) #[] 42 rfl (by simp) (Nat.le_refl _)
    have hSA2 := hS9c.advA (.cells #[] 42)
    go_wp2_with (first
      | (at_builtin; refine wpList_append_list (ys := m2) _ _ 32 _ 24 _ infoB Try.underlying32 hlit2 hSA2 encB_len (by omega) rfl encB_one (by simp; omega) (by omega) (by first | omega | simp) (by rfl) (by rfl) (by rfl) (by rfl) (by rfl) ?_; intro v20 w20 hown20 hg20; have hb20 := fresh_below hg20; have hSB2 := hS6c.adv hb20; have hs20 := hb20.size)
      | (at_builtin; refine wpList_append_list (ys := m1) _ _ 32 _ 24 _ infoB Try.underlying32 hown20 hSB2 encB_len (by omega) rfl encB_one (by simp; omega) (by omega) (by first | omega | simp) (by rfl) (by rfl) (by rfl) (by rfl) (by rfl) ?_; intro v21 w21 hown21 hg21))
    have hb21 := bel_only hb20 hg21 (fun g hg => (hown20.block_lt (g := g) hg).1)
    rw [List.nil_append] at hown21
    obtain ⟨A21, c21, rfl, hS21, _, hlc21, hcm21⟩ := hown21.form2 encB_len
    refine (mergeB_any A21 c21 (m2 ++ m1) _ hS21 (by omega)).mono ?_
    rintro e w13 ⟨A13, c13, rfl, hS13, hlc13, hcm13, hb13⟩
    rw [HD4.out]
    rw [HD5.out] at hS13 hlc13 ⊢
    have b13 := bel_adv hb21 hb13
    have hS6f := hS6c.adv b13
    have hS9f := hS9c.adv b13
    have hS12f := hS12.adv b13
    have hbel13 := bel_adv hbel12 b13
    clear hS6c hS9c hS12 hbel12 b13 hb13 hb21 hb20 hg20 hg21 hown20 hown21 hS21 hlit2 hSA2 hSB2
    have hlit3 := Own.lit encB_len w13 ([] : List BookT) #[] 42 rfl (by simp) (Nat.le_refl _)
    have hSA3 := hS6f.advA (.cells #[] 42)
    go_wp2_with (first
      | (at_builtin; refine wpList_append_list (ys := m1) _ _ 32 _ 24 _ infoB Try.underlying32 hlit3 hSA3 encB_len (by omega) rfl encB_one (by simp; omega) (by omega) (by first | omega | simp) (by rfl) (by rfl) (by rfl) (by rfl) (by rfl) ?_; intro v30 w30 hown30 hg30; have hb30 := fresh_below hg30; have hSB3 := hS9f.adv hb30; have hs30 := hb30.size)
      | (at_builtin; refine wpList_append_list (ys := m2) _ _ 32 _ 24 _ infoB Try.underlying32 hown30 hSB3 encB_len (by omega) rfl encB_one (by simp; omega) (by omega) (by first | omega | simp) (by rfl) (by rfl) (by rfl) (by rfl) (by rfl) ?_; intro v31 w31 hown31 hg31))
    have hb31 := bel_only hb30 hg31 (fun g hg => (hown30.block_lt (g := g) hg).1)
    rw [List.nil_append] at hown31
    obtain ⟨A31, c31, rfl, hS31, _, hlc31, hcm31⟩ := hown31.form2 encB_len
    refine (trial_any A31 c31 (m1 ++ m2) _ hS31 (by omega)).mono ?_
    rintro e w14 ⟨A14, c14, rfl, hS14, hlc14, hcm14, hb14⟩
    have l6 := mRB_len ((m1 ++ m2).map zeroRun)
    rw [HD2.out.1]
    rw [HD2.out.2.2] at hS14 hlc14 l6 ⊢
    have b14 := bel_adv hb31 hb14
    have hS12g := hS12f.adv b14
    have hS13g := hS13.adv b14
    have hbel14 := bel_adv hbel13 b14
    clear hS6f hS9f hS12f hbel13 b14 hb14 hb31 hb30 hg30 hg31 hown30 hown31 hS31 hlit3 hSA3 hSB3 hS13
    go_wp2_with fail
    refine (trial_any A12 c12 m3 _ hS12g (by omega)).mono ?_
    rintro e w15 ⟨A15, c15, rfl, hS15, hlc15, hcm15, hb15⟩
    rw [HD2.out.2.1]
    have hS12h := hS12g.adv hb15
    have hS13h := hS13g.adv hb15
    have hS14h := hS14.adv hb15
    generalize mRB (m3.map zeroRun) = m4 at *
    go_wp2_with fail
    refine (same44_bw A13 A12 c13 c12 m3 _ hS13h hS12h (by omega)).mono ?_
    rintro e w16 ⟨rfl, hb16⟩
    go_wp2_with fail
    refine (same44_bw A14 A15 c14 c15 m4 _ (hS14h.adv hb16) (hS15.adv hb16) (by omega)).mono ?_
    rintro e w17 ⟨rfl, hb17⟩
    go_wp2_with fail
    refine (awake_any _).mono ?_
    rintro e w18 ⟨rfl, hb18⟩
    go_wp2
    go_ret
    exact ⟨rfl, bel_adv (bel_adv (bel_adv (bel_adv hbel14 hb15) hb16) hb17) hb18⟩

end Go.Proofs.Ytbiajkknpkeeoaa
