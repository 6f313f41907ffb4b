/- The walk of DeductionCaps: it returns true and turns nothing that was there. Conditions: as stated. -/
import Derived.Test.YtcpkdpflkjjlcaaAwake27
import Derived.Test.YtcpkdpflkjjlcaaTake2
import Derived.Test.YtcpkdpflkjjlcaaAddD
import Derived.Test.YtcpkdpflkjjlcaaStopsP
namespace Go.Proofs.Ytcpkdpflkjjlcaa
open Go.RowKit

theorem DeckIn.adv {w w' : World} {b M : Nat} (h : DeckIn w b M) (hb : Below w.heap.size w w') : DeckIn w' b M := h.grown (only_of_below hb none) (by intro g e; cases e)
/-- A slice of elements doesn't lie in the deck's block. -/
theorem SliceOf.ne_deck {w : World} {B b M : Nat} {A : Option Addr} {m : List Elem} (h : SliceOf encE 2 w B A m) (hd : DeckIn w b M) (hne : m ≠ []) : ∀ a, A = some a → a.block ≠ b := by
  obtain ⟨A', l, c, at_, h1, _⟩ := hd
  obtain ⟨x, m', rfl⟩ := List.exists_cons_of_ne_nil hne
  obtain ⟨b', off, rfl, _, hc⟩ := h hne
  intro a ha e
  injection ha with ha
  subst ha
  simp only at e
  subst e
  have h2 := hc 0 x rfl 0 _ rfl
  have h3 := h1.cell (off + 0 * 2 + 0)
  rw [h2] at h3
  generalize off + 0 * 2 + 0 = q at h3
  match q, h3 with
  | 0, h3 => simp at h3
  | 1, h3 => simp at h3
  | (n + 2), h3 => simp at h3
theorem SliceOf.advK {w w' : World} {b M : Nat} {A : Option Addr} {m : List Elem} (h : SliceOf encE 2 w w.heap.size A m) (hd : DeckIn w b M) (hg : w.grownBy w' (some b)) : SliceOf encE 2 w' w'.heap.size A m := fun hne => h.advG hg (h.ne_deck hd hne) hne

/-- What the test of the loop leaves. -/
def CTest (w : World) (k : Nat) (A A2 : Option Addr) (ys : List Elem) (ds : List DedT) (s : Value) (wx : World) : Prop := ∃ r : Bool, s = .bool r ∧ (r = true → k < 8) ∧ SliceOf encE 2 wx wx.heap.size A ys ∧ DeckIn wx w.heap.size (32 + 4 * k) ∧ SliceOf encD 6 wx wx.heap.size A2 ds ∧ Below w.heap.size w wx

set_option maxRecDepth 100000 in
set_option maxHeartbeats 4000000 in
theorem caps_walk (I : Option Addr) (icap : Nat) (l : List Int) (w : World) (hI : SliceOf encI 1 w w.heap.size I l) (hIl : l.length ≤ 9223372036854775807) (hIb : ∀ x ∈ l, I64 x) :
    Calls Try.prog 7 #[.slice I l.length icap] w fun e w' => e = .returned (.bool true) ∧ Below w.heap.size w w' := by
  go_enter Try.func7, Try.ntmps7
  go_wp2_with fail
  refine (new_any I l icap _ hI hIl hIb).mono ?_
  rintro e w1 ⟨rfl, hd1, hb1⟩
  have hlt1 := hd1.lt
  go_wp2_with fail
  refine (deductions_any w.heap.size 0 _ (by omega) hd1).mono ?_
  rintro e w2 ⟨v2, ds, rfl, hgd, hown2, hd2, hg2⟩
  obtain ⟨A2, c2, rfl, hS2, hB2, hlc2, hcm2⟩ := hown2.form2 encD_len
  have hbel2 : Below w.heap.size w w2 := bel_only hb1 hg2 (fun g e => by injection e; omega)
  have HDZ := Lib.hid hgd.size
  have HV := Lib.hid hgd.valid
  have hdl := hgd.len
  have hs2 := hg2.size
  have hAb : ∀ a, A2 = some a → a.block ≠ w.heap.size := fun a ha => by have := hB2 a ha; omega
  clear hown2 hgd hg2 hb1 hd1 hI hIb hB2
  go_wp2_with fail
  go_loopw [5, 6] (fun v i wr => ∃ (k : Nat) (A : Option Addr) (c : Nat) (ys : List Elem), k ≤ 8 ∧ i = .int .i64 k ∧ v = .slice A ys.length c ∧ SliceOf encE 2 wr wr.heap.size A ys ∧ Hid (CapOk ds k ys) ∧ DeckIn wr w.heap.size (32 + 4 * k) ∧ SliceOf encD 6 wr wr.heap.size A2 ds ∧ Below w.heap.size w wr) (fun _ i _ => 8 - (intOf i).toNat)
  case atStart => exact ⟨0, none, 0, [], by omega, rfl, rfl, SliceOf.nil_, CapOk.zero ds, hd2.mono (by omega), hS2, hbel2⟩
  case round =>
    clear hd2 hS2 hbel2
    obtain ⟨k, A, c, ys, hk, rfl, rfl, hSy, hcap, hdk, hSd, hbel⟩ := hrel
    have hltr := hdk.lt
    go_upto_region 5 with fail
    go_cut [21] (fun s wx => CTest w k A A2 ys ds s wx)
    case first =>
      by_cases hlt : k < 8
      · go_wp2_with fail
        refine (left_any w.heap.size (32 + 4 * k) _ hdk).mono ?_
        rintro e w2 ⟨r, rfl, hd2, hg2⟩
        cases r
        all_goals
          go_wp2_with fail
          go_meet
          exact ⟨_, rfl, fun _ => hlt, hSy.advK hdk hg2, hd2, hSd.advG hg2 hAb, bel_only hbel hg2 (fun g e => by injection e; omega)⟩
      · go_wp2_with fail
        go_meet
        exact ⟨false, rfl, (fun h => by cases h), hSy, hdk, hSd, hbel⟩
    case rest =>
      clear hSy hdk hSd hbel hltr
      obtain ⟨r, rfl, hr, hSy, hdk, hSd, hbel⟩ := hcut
      have hltr := hdk.lt
      have hyl : ys.length ≤ 128 := (recB_iff.1 hcap.out.rec_).1
      cases r
      · clear hr hdk
        go_wp2_with fail
        obtain ⟨wo, rfl⟩ : ∃ wo : World, wo = wc := ⟨_, rfl⟩
        go_loopw [11] (fun i wr => ∃ j q : Nat, j ≤ ds.length ∧ i = .int .i64 j ∧ Hid (wr = wo.drewN q)) (fun i _ => ds.length - (intOf i).toNat)
        case atStart => exact ⟨0, 0, by omega, rfl, rfl⟩
        case round =>
          obtain ⟨j, q, hj, rfl, hw⟩ := hrel
          have hSy' : SliceOf encE 2 wr wr.heap.size A ys := by rw [hw.out]; exact hSy
          have hSd' : SliceOf encD 6 wr wr.heap.size A2 ds := by rw [hw.out]; exact hSd
          have hbel' : Below w.heap.size w wr := by rw [hw.out]; exact below_drewN hbel q
          by_cases hlt : j < ds.length
          · obtain ⟨b, off, rfl, hb, hc⟩ := hSd'.at_ hlt
            have c0 := hc 0 _ rfl
            have c1 := hc 1 _ rfl
            have c2 := hc 2 _ rfl
            have c3 := hc 3 _ rfl
            have c4 := hc 4 _ rfl
            have c5 := hc 5 _ rfl
            simp only [Nat.add_zero] at c0
            clear hc
            by_cases hcp : 0 < ds[j].cap
            · have hle := hcap.out.cap ds[j] (List.getElem_mem hlt) hcp
              have hcd : decide (0 < ds[j].cap) = true := by simpa using hcp
              go_wp2_with fail
              go_quiet ((go_at_call 30; exact Calls.quiet_of_same ((at26_any A c ys _ _ _ (hSy'.advD _) (by omega)).mono fun e w' ⟨h1, h2⟩ => ⟨h1, h2.symm⟩)))
              go_wp2
              go_roundw
              case rel => exact ⟨j + 1, q + nq, by omega, by go_num, by show wr.drewN nq = wo.drewN (q + nq); rw [hw.out, World.drewN_drewN]⟩
              case measure => simp [intOf]; omega
            · have hcd : decide (0 < ds[j].cap) = false := by simpa using hcp
              clear hcp
              go_wp2_with fail
              go_quiet (fail)
              go_wp2
              go_roundw
              case rel => exact ⟨j + 1, q + nq, by omega, by go_num, by show wr.drewN nq = wo.drewN (q + nq); rw [hw.out, World.drewN_drewN]⟩
              case measure => simp [intOf]; omega
          · go_wp2_with fail
            refine (awake_any _).mono ?_
            rintro e w13 ⟨rfl, hb13⟩
            go_wp2
            go_ret
            exact ⟨rfl, bel_adv hbel' hb13⟩
      · have hlt := hr rfl
        clear hr
        go_wp2_with fail
        refine (small_any w.heap.size (32 + 4 * k) _ (by omega) hdk).mono ?_
        rintro e w3 ⟨r3, rfl, ha3, hb3, hd3, hg3⟩
        go_wp2_with fail
        refine (small_any w.heap.size (32 + 4 * k + 2) _ (by omega) hd3).mono ?_
        rintro e w4 ⟨r4, rfl, ha4, hb4, hd4, hg4⟩
        have hG := only_trans hg3 hg4
        have hSy4 := hSy.advK hdk hG
        have hSd4 := hSd.advG hG hAb
        have hbel4 : Below w.heap.size w w4 := bel_only hbel hG (fun g e => by injection e; omega)
        obtain ⟨E1, E2, E3, E4, E5, E6⟩ := CapOk.step hcap.out hlt HV.out ha3 hb3 ha4 hb4
        have HE1 := Lib.hid E1
        have HE2 := Lib.hid E2
        have HE3 := Lib.hid E3
        have HE4 := Lib.hid E4
        have HE5 := Lib.hid E5
        have HYZ := Lib.hid hcap.out.size
        have hcap2 := hcap
        clear E1 E2 E3 E4 E5 hG hg3 hg4 hd3 hSy hSd hbel hdk
        go_wp2_with fail
        refine (take_any A2 A c2 c ds ys false r3 r4 _ hSd4 HDZ.out (by omega) hSy4 HYZ.out (by omega)).mono ?_
        rintro e w5 ⟨A5, c5, rfl, hS5, hlc5, hcm5, hb5⟩
        rw [HE1.out]
        generalize takeR ds false r3 r4 ys = ps at hS5 hlc5 HE2 HE3 HE4 HE5 E6 ⊢
        go_wp2_with fail
        refine (add_any A A5 c c5 ys ps _ (hSy4.adv hb5) HYZ.out (by omega) hS5 (fun x hx => (HE5.out x hx).2) (by omega)).mono ?_
        rintro e w6 ⟨A6, c6, rfl, hS6, hlc6, hcm6, hb6⟩
        rw [HE2.out]
        have hnl := (recB_iff.1 HE4.out.rec_).1
        have HNB := Lib.hid (fun x hx => ((recB_iff.1 HE4.out.rec_).2.1 x hx).2)
        have HYB := Lib.hid (fun x hx => ((recB_iff.1 hcap.out.rec_).2.1 x hx).2)
        have HPB := Lib.hid (fun x hx => (HE5.out x hx).1)
        have hq1 := sumE_bd ys 1000000000000 HYB.out
        have hq2 := sumE_bd ps 1000000000000 HPB.out
        obtain ⟨y1, y2⟩ := hq1
        obtain ⟨p1, p2⟩ := hq2
        have y3 : sumE ys ≤ 128000000000000 := by omega
        have p3 : sumE ps ≤ 16000000000000 := by omega
        clear y2 p2
        generalize addR ys ps = ns at hS6 hlc6 HE3 HE4 hnl HNB ⊢
        have hdeck6 := (hd4.adv hb5).adv hb6
        have hSd6 := (hSd4.adv hb5).adv hb6
        have hSy6 := (hSy4.adv hb5).adv hb6
        have hSp6 := hS5.adv hb6
        have hbel6 := bel_adv (bel_adv hbel4 hb5) hb6
        clear hSd4 hSy4 hS5 hb5 hb6 hbel4 hd4
        go_wp2_with fail
        refine (sum27_any A6 c6 ns _ _ hS6 (by omega) HNB.out).mono ?_
        rintro e w' ⟨rfl, rfl⟩
        go_wp2_with fail
        refine (sum27_any A c ys _ _ hSy6 (by omega) HYB.out).mono ?_
        rintro e w' ⟨rfl, rfl⟩
        go_wp2_with fail
        refine (sum27_any A5 c5 ps _ _ hSp6 (by omega) HPB.out).mono ?_
        rintro e w' ⟨rfl, rfl⟩
        rw [HE3.out]
        have hn1 : (sumE ys + sumE ps == sumE ys + sumE ps) = true := by simp
        have hn2 : (sumE ys + sumE ps != sumE ys + sumE ps) = false := by simp
        go_wp2
        go_roundw
        case rel => exact ⟨k + 1, A6, c6, ns, by omega, by go_num, rfl, hS6, HE4.out, hdeck6.mono (by omega), hSd6, hbel6⟩
        case measure => simp [intOf]; omega

end Go.Proofs.Ytcpkdpflkjjlcaa
