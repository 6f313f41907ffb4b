/- The walk of payrolllaw44.LedgerCancels: it returns true and turns nothing that was there. Conditions: as stated. -/
import Derived.Test.YtbiajkknpkeeoaaAwake44
import Derived.Test.YtbiajkknpkeeoaaTrial
import Derived.Test.YtbiajkknpkeeoaaCancP
import Derived.Test.YtbiajkknpkeeoaaSame44
namespace Go.Proofs.Ytbiajkknpkeeoaa
open Go.RowKit

theorem Entries_m (A B : Option Addr) (cap bcap : Nat) (r : Int) (l : List PostT) (w : World) (h : SliceOf encW 6 w w.heap.size A wages8)
    (hy : SliceOf encP 6 w w.heap.size B l) (hok : BookOk r l) (hr : r ≤ 256) (hl : l.length ≤ 100) :
    Calls Try.prog 12 #[.slice A wages8.length cap, .slice B l.length bcap] w (BPost (mRB (entAll wages8 l)) 0 w) := by
  have := Entries_any A B cap bcap wages8 l w h wages8_size (by rw [wages8_len]; omega) hy hok.size (by omega)
  rw [(hok.ent hr hl).1, (hok.ent hr hl).2] at this
  exact this
def notR (r : Int) (x : PostT) : Bool := !decide (x.run = r)
theorem notR_take (xs : List PostT) (r : Int) (k : Nat) (h : k < xs.length) : (xs.take (k + 1)).filter (notR r) = (xs.take k).filter (notR r) ++ (if xs[k].run = r then [] else [xs[k]]) := by
  rw [List.take_succ_eq_append_getElem h, List.filter_append]
  congr 1
  by_cases h1 : xs[k].run = r <;> simp [notR, h1]

set_option maxRecDepth 100000 in
set_option maxHeartbeats 8000000 in
theorem cancels44_walk (B : Option Addr) (lcap : Nat) (n : Int) (l : List Int) (w : World) (hI : SliceOf encI 1 w w.heap.size B l) (hIl : l.length ≤ 9223372036854775807) (hIb : ∀ x ∈ l, I64 x) :
    Calls Try.prog 7 #[.slice B l.length lcap, .int .i64 n] w fun e w' => e = .returned (.bool true) ∧ Below w.heap.size w w' := by
  go_enter Try.func7, Try.ntmps7
  go_wp2_with fail
  refine (new_any B l lcap _ hI hIl hIb).mono ?_
  rintro e w1 ⟨rfl, hdk1, hb1⟩
  clear hIb
  go_wp2_with fail
  refine (bookOk_any _ 0 5 _ (by omega) (by omega) hdk1).mono ?_
  rintro e w2 ⟨v2, ys, rfl, hyl, hok0, hown2, _, hg2⟩
  have HOK : Hid (BookOk 10 ys) := hok0.mono (by omega)
  have hb2 : Below w.heap.size w w2 := bel_only hb1 hg2 (fun g e => by injection e; omega)
  obtain ⟨A2, c2, rfl, hS2, hB2, hlc2, hcm2⟩ := hown2.form2 encP_len
  have hS2' := hS2.more (B' := w2.heap.size) (by first | exact Nat.le_refl _ | omega)
  clear hS2 hB2 hown2 hg2 hdk1 hb1 hI hok0
  by_cases h0 : ys.length = 0
  · have h0' : ((ys.length : Int) == 0) = true := by simp [h0]
    clear h0
    go_wp2_with fail
    refine (awake_any _).mono ?_
    rintro e w5 ⟨rfl, hb5⟩
    go_wp2
    go_ret
    exact ⟨rfl, bel_adv hb2 hb5⟩
  have h0' : ((ys.length : Int) == 0) = false := by simp; simpa using h0
  have hp : 0 < ys.length := by omega
  clear h0
  go_wp2_with fail
  refine (mod_any _ _ _ (by omega) (by omega)).mono ?_
  rintro e w3 ⟨rfl, rfl⟩
  have hj1 : 0 ≤ n % (ys.length : Int) := Int.emod_nonneg _ (by omega)
  have hj2 : n % (ys.length : Int) < ys.length := Int.emod_lt_of_pos _ (by omega)
  generalize n % (ys.length : Int) = j0 at hj1 hj2 ⊢
  obtain ⟨j, rfl⟩ := Int.eq_ofNat_of_zero_le hj1
  have hj : j < ys.length := by omega
  obtain ⟨b, off, hA2, hb, hc⟩ := hS2'.at_ hj
  subst hA2
  have c0 := hc 0 _ rfl
  simp only [Nat.add_zero] at c0
  have HNE : Hid (undoL ys[j].run 50 ys ≠ []) := by
    intro e
    have hm : back 50 ys[j] ∈ undoL ys[j].run 50 ys := List.mem_map.2 ⟨ys[j], List.mem_filter.2 ⟨List.getElem_mem _, by simp⟩, rfl⟩
    rw [e] at hm; cases hm
  have hlast : (ys[ys.length - 1]'(by omega)).run < 50 := by
    have := (HOK.out.ok _ (List.getElem_mem (show ys.length - 1 < ys.length by omega))).1.2
    omega
  have HLA := Lib.hid hlast
  clear hc hlast
  generalize ys[j].run = r at c0 HNE
  go_wp2_with fail
  refine (undo_any (some ⟨b, off, none⟩) c2 ys r 50 _ hS2' (by omega) HOK.out.size (HOK.out.book (by omega) (by omega)) (by omega) (by omega) hp HLA.out HNE.out).mono ?_
  rintro e w4 ⟨v4, rfl, hown4, hb4⟩
  obtain ⟨A4, c4, rfl, hS4, hB4, hlc4, hcm4⟩ := hown4.form2 encP_len
  have hS24 := hS2'.adv hb4
  have hbel4 := bel_adv hb2 hb4
  have hul := undo_len r 50 ys
  have HUN := Lib.hid (HOK.out.undo r)
  have HTR := Lib.hid (canc_trial HOK.out (by omega) r)
  generalize hU : undoL r 50 ys = U at *
  clear hU hS2' hown4 hB4 hb4 hb2 HNE HLA c0 hb
  go_wp2_with fail
  refine (wages44_any _).mono ?_
  rintro e w5 ⟨A5, c5, rfl, hS5, hb5⟩
  have hS25 := hS24.adv hb5
  have hS45 := hS4.adv hb5
  have hbel5 := bel_adv hbel4 hb5
  clear hS24 hS4 hbel4 hb5
  have hlit := Own.lit encP_len w5 ([] : List PostT) #[] 28 rfl (by simp) (Nat.le_refl _)
  have hSA := hS25.advA (.cells #[] 28)
  go_wp2_with (first
    | (at_builtin; refine wpList_append_list (ys := ys) _ _ 23 _ 56 _ infoP Try.underlying23 hlit hSA encP_len (by omega) rfl encP_one (by simp; omega) (by omega) (by first | omega | simp) (by rfl) (by rfl) (by rfl) (by rfl) (by rfl) ?_; intro v20 w20 hown20 hg20; have hb20 := fresh_below hg20; have hSB := hS45.adv hb20; have hs20 := hb20.size)
    | (at_builtin; refine wpList_append_list (ys := U) _ _ 23 _ 56 _ infoP Try.underlying23 hown20 hSB encP_len (by omega) rfl encP_one (by simp; omega) (by omega) (by first | omega | simp) (by rfl) (by rfl) (by rfl) (by rfl) (by rfl) ?_; intro v21 w21 hown21 hg21))
  have hb21 := bel_only hb20 hg21 (fun g hg => (hown20.block_lt (g := g) hg).1)
  rw [List.nil_append] at hown21
  obtain ⟨A21, c21, rfl, hS21, _, hlc21, hcm21⟩ := hown21.form2 encP_len
  refine (Entries_m A5 A21 c5 c21 50 (ys ++ U) _ (hS5.adv hb21) hS21 HUN.out (by omega) (by simp; omega)).mono ?_
  rintro e w6 ⟨A6, c6, rfl, hS6, hlc6, hcm6, hb6⟩
  have b6 := bel_adv hb21 hb6
  have hS26 := hS25.adv b6
  have hbel6 := bel_adv hbel5 b6
  clear hS5 hS25 hS45 hbel5 hlit hSA hSB hown20 hown21 hg20 hg21 hb20 hb21 hb6 b6 hS21
  go_wp2_with fail
  go_loopw [11, 12] (fun v i wr => ∃ k : Nat, k ≤ ys.length ∧ i = .int .i64 k ∧ Own encP 6 28 wr w6.heap.size v ((ys.take k).filter (notR r)) ∧ Below w6.heap.size w6 wr) (fun _ i _ => ys.length - (intOf i).toNat)
  case atStart => exact ⟨0, by omega, rfl, Own.nil_ _ _, Below.refl _ _⟩
  case round =>
    obtain ⟨k, hk, rfl, hown, hbel⟩ := hrel
    have hbs := hbel.size
    by_cases hlt : k < ys.length
    · obtain ⟨b', off', hA', hb', hc⟩ := (hS26.adv hbel).at_ hlt
      injection hA' with hA'
      injection hA' with e1 e2
      subst e1 e2
      have c0 := hc 0 _ rfl
      have c1 := hc 1 _ rfl
      have c2 := hc 2 _ rfl
      have c3 := hc 3 _ rfl
      have c4 := hc 4 _ rfl
      have c5 := hc 5 _ rfl
      simp only [Nat.add_zero] at c0
      clear hc
      have HT := Lib.hid (notR_take ys r k hlt)
      have hfl : ((ys.take k).filter (notR r)).length ≤ 20 := Nat.le_trans (List.length_filter_le _ _) (by simp; omega)
      by_cases hr : ys[k].run = r
      · have hr' : (ys[k].run != r) = false := by simpa using hr
        have HTT : Hid ((ys.take (k + 1)).filter (notR r) = (ys.take k).filter (notR r)) := by rw [Hid, HT.out, if_pos hr, List.append_nil]
        clear HT hr
        go_wp2_with fail
        go_roundw
        case rel =>
          have hf : ∃ k' : Nat, k' ≤ ys.length ∧ Value.int .i64 ((k : Int) + 1) = .int .i64 k' ∧ Own encP 6 28 wr w6.heap.size u11 ((ys.take k').filter (notR r)) ∧ Below w6.heap.size w6 wr :=
            ⟨k + 1, by omega, by go_num, by rw [HTT.out]; exact hown, hbel⟩
          first | exact hf | ((repeat apply Exists.intro); exact ⟨hf, rfl⟩)
        case measure => simp [intOf]; omega
      · have hr' : (ys[k].run != r) = true := by simpa using hr
        have hr7 := fun g hg => (hown.block_lt (g := g) hg).1
        have HTT : Hid ((ys.take (k + 1)).filter (notR r) = (ys.take k).filter (notR r) ++ [ys[k]]) := by rw [Hid, HT.out, if_neg hr]
        clear HT hr
        go_wp2_with (at_builtin; (refine wpList_append_one _ _ 23 ys[k] _ 56 _ infoP Try.underlying23 hown encP_len (by omega) rfl (encP_one _) (by omega) (by omega) hbs (by rfl) (by rfl) (by rfl) (by rfl) (by simp) (by rfl) ?_); intro v2 w9 hown9 hg9)
        go_roundw
        case rel =>
          have hf : ∃ k' : Nat, k' ≤ ys.length ∧ Value.int .i64 ((k : Int) + 1) = .int .i64 k' ∧ Own encP 6 28 w9 w6.heap.size v2 ((ys.take k').filter (notR r)) ∧ Below w6.heap.size w6 w9 :=
            ⟨k + 1, by omega, by go_num, by rw [HTT.out]; exact hown9, bel_only hbel hg9 hr7⟩
          first | exact hf | ((repeat apply Exists.intro); exact ⟨hf, rfl⟩)
        case measure => simp [intOf]; omega
    · rw [List.take_of_length_le (by omega)] at hown
      obtain rfl : k = ys.length := by omega
      have hd0 : decide ((ys.length : Int) < (ys.length : Int)) = false := by simp
      have hd1 : decide (ys.length < ys.length) = false := by simp
      obtain ⟨wq, rfl⟩ : ∃ wq : World, wq = wr := ⟨_, rfl⟩
      obtain ⟨A7, c7, rfl, hS7, hB7, hlc7, hcm7⟩ := hown.form2 encP_len
      have HSB := Lib.hid (HOK.out.sub (List.filter_sublist (p := notR r)))
      have hfl : (ys.filter (notR r)).length ≤ 20 := Nat.le_trans (List.length_filter_le _ _) (by omega)
      have HTR2 : Hid (mErrB ((mRB (entAll wages8 (ys ++ U))).map zeroRun) = 0 ∧ mErrB ((mRB (entAll wages8 (ys.filter (notR r)))).map zeroRun) = 0 ∧ mRB ((mRB (entAll wages8 (ys ++ U))).map zeroRun) = mRB ((mRB (entAll wages8 (ys.filter (notR r)))).map zeroRun)) := HTR.out
      have hS6q := hS6.adv hbel
      have hbelq := bel_adv hbel6 hbel
      clear hown hB7 hS6 hbel6 hbel HTR
      generalize ys.filter (notR r) = zs at *
      go_wp2_with fail
      refine (wages44_any _).mono ?_
      rintro e w11 ⟨A11, c11, rfl, hS11, hb11⟩
      go_wp2_with fail
      refine (Entries_m A11 A7 c11 c7 10 zs _ hS11 (hS7.adv hb11) HSB.out (by omega) (by omega)).mono ?_
      rintro e w12 ⟨A12, c12, rfl, hS12, hlc12, hcm12, hb12⟩
      have b12 := bel_adv hb11 hb12
      have hS6c := hS6q.adv b12
      have hbel12 := bel_adv hbelq b12
      have l1 := mRB_len (entAll wages8 (ys ++ U))
      have l2 := mRB_len (entAll wages8 zs)
      clear hS11 hb11 hb12 hS6q hbelq b12 hS7
      generalize mRB (entAll wages8 (ys ++ U)) = m1 at *
      generalize mRB (entAll wages8 zs) = m2 at *
      go_wp2_with fail
      refine (trial_any A6 c6 m1 _ hS6c (by omega)).mono ?_
      rintro e w13 ⟨A13, c13, rfl, hS13, hlc13, hcm13, hb13⟩
      have l3 := mRB_len (m1.map zeroRun)
      rw [HTR2.out.1]
      rw [HTR2.out.2.2] at hS13 hlc13 l3 ⊢
      go_wp2_with fail
      refine (trial_any A12 c12 m2 _ (hS12.adv hb13) (by omega)).mono ?_
      rintro e w14 ⟨A14, c14, rfl, hS14, hlc14, hcm14, hb14⟩
      rw [HTR2.out.2.1]
      have hS13h := hS13.adv hb14
      generalize mRB (m2.map zeroRun) = m3 at *
      go_wp2_with fail
      refine (same44_bw A13 A14 c13 c14 m3 _ hS13h hS14 (by omega)).mono ?_
      rintro e w15 ⟨rfl, hb15⟩
      go_wp2_with fail
      refine (awake_any _).mono ?_
      rintro e w16 ⟨rfl, hb16⟩
      go_wp2
      go_ret
      exact ⟨rfl, bel_adv (bel_adv (bel_adv (bel_adv hbel12 hb13) hb14) hb15) hb16⟩

end Go.Proofs.Ytbiajkknpkeeoaa
