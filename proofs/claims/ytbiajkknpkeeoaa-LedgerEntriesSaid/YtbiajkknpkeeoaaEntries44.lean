/- The walk of payrolllaw44.LedgerEntries: it returns true and turns nothing that was there. Conditions: as stated. -/
import Derived.Test.YtbiajkknpkeeoaaAwake44
import Derived.Test.YtbiajkknpkeeoaaRefEnt
import Derived.Test.YtbiajkknpkeeoaaWages44
import Derived.Test.YtbiajkknpkeeoaaSame44
namespace Go.Proofs.Ytbiajkknpkeeoaa
open Go.RowKit

theorem eRes_len (ws : List WageT) (l : List PostT) : (eRes ws l).length ≤ 131072 := by
  rw [eRes]; split
  · exact mRB_len _
  · simp
theorem baW_size : ∀ x ∈ baW, x.code.size ≤ maxLen := by decide

set_option maxRecDepth 100000 in
set_option maxHeartbeats 8000000 in
theorem entries44_walk (B A : Option Addr) (lcap cap : Nat) (l : List Int) (xs : List PostT) (w : World) (hI : SliceOf encI 1 w w.heap.size B l) (hIl : l.length ≤ 9223372036854775807) (hIb : ∀ x ∈ l, I64 x)
    (h : SliceOf encP 6 w w.heap.size A xs) (hz : ∀ x ∈ xs, x.line.code.size ≤ maxLen) (hl : xs.length ≤ 9223372036854775807) :
    Calls Try.prog 3 #[.slice B l.length lcap, .slice A xs.length cap] w fun e w' => e = .returned (.bool true) ∧ Below w.heap.size w w' := by
  have HZ := Lib.hid hz; clear hz
  have HIB := Lib.hid hIb; clear hIb
  by_cases h40 : 40 < xs.length
  · go_enter Try.func3, Try.ntmps3
    go_wp2_with fail
    refine (awake_any _).mono ?_
    rintro e w5 ⟨rfl, hb5⟩
    go_wp2
    go_ret
    exact ⟨rfl, hb5⟩
  go_enter Try.func3, Try.ntmps3
  go_wp2_with fail
  go_loopw [5] (fun i wr => ∃ k : Nat, k ≤ xs.length ∧ i = .int .i64 k ∧ Below w.heap.size w wr) (fun i _ => xs.length - (intOf i).toNat)
  case atStart => exact ⟨0, by omega, rfl, Below.refl _ _⟩
  case round =>
    obtain ⟨k, hk, rfl, hbel⟩ := hrel
    by_cases hlt : k < xs.length
    · obtain ⟨b, off, rfl, hb, hc⟩ := (h.adv hbel).at_ hlt
      have c4 := hc 4 _ rfl
      clear hc
      have hzk := HZ.out _ (List.getElem_mem hlt)
      by_cases h60 : 60 < xs[k].line.code.size
      · go_wp2_with fail
        refine (awake_any _).mono ?_
        rintro e w5 ⟨rfl, hb5⟩
        go_wp2
        go_ret
        exact ⟨rfl, bel_adv hbel hb5⟩
      · go_wp2_with fail
        go_roundw
        case rel => exact ⟨k + 1, by omega, by go_num, hbel⟩
        case measure => simp [intOf]; omega
    · obtain rfl : k = xs.length := by omega
      have hd0 : decide ((xs.length : Int) < (xs.length : Int)) = false := by simp
      have hd1 : decide (xs.length < xs.length) = false := by simp
      obtain ⟨wq, rfl⟩ : ∃ wq : World, wq = wr := ⟨_, rfl⟩
      go_wp2_with fail
      refine (new_any B l lcap _ (hI.adv hbel) hIl HIB.out).mono ?_
      rintro e w1 ⟨rfl, hdk1, hb1⟩
      go_wp2_with fail
      refine (bookG_any _ 0 5 _ (by omega) (by omega) hdk1).mono ?_
      rintro e w2 ⟨v2, ys, rfl, hyl, hyc, hown2, _, hg2⟩
      have hb2 : Below wq.heap.size wq w2 := bel_only hb1 hg2 (fun g e => by injection e; omega)
      obtain ⟨A2, c2, rfl, hS2, hB2, hlc2, hcm2⟩ := hown2.form2 encP_len
      have hS2' := hS2.more (B' := w2.heap.size) (by first | exact Nat.le_refl _ | omega)
      have HYC : Hid (∀ x ∈ ys, x.line.code.size ≤ maxLen) := fun x hx => Nat.le_trans (hyc x hx) (by unfold maxLen; omega)
      have hbw2 := bel_adv hbel hb2
      have hX2 := h.adv hbw2
      clear hS2 hB2 hown2 hg2 hdk1 hb1 hI hyc hb2 hbel h
      go_wp2_with fail
      refine (wages44_any _).mono ?_
      rintro e w3 ⟨A3, c3, rfl, hS3, hb3⟩
      go_wp2_with fail
      refine (Entries_any A3 A2 c3 c2 wages8 ys _ hS3 wages8_size (by rw [wages8_len]; omega) (hS2'.adv hb3) HYC.out (by omega)).mono ?_
      rintro e w4 ⟨A4, c4, rfl, hS4, hlc4, hcm4, hb4⟩
      have b4 := bel_adv hb3 hb4
      clear hS3 hb3 hb4
      go_wp2_with fail
      refine (wages44_any _).mono ?_
      rintro e w5 ⟨A5, c5, rfl, hS5, hb5⟩
      go_wp2_with fail
      refine (Entries44_any A5 A2 c5 c2 wages8 ys _ hS5 wages8_size (by rw [wages8_len]; omega) ((hS2'.adv b4).adv hb5) HYC.out (by omega)).mono ?_
      rintro e w6 ⟨A6, c6, rfl, hS6, hlc6, hcm6, hb6⟩
      have b6 := bel_adv hb5 hb6
      have hS4b := hS4.adv b6
      clear hS5 hb5 hb6 hS4
      go_wp2_with fail
      refine (base_any _).mono ?_
      rintro e w7 ⟨A7, c7, rfl, hS7, hb7⟩
      go_wp2_with fail
      refine (Entries_any A7 A2 c7 c2 baW ys _ hS7 baW_size (by simp [baW]) (((hS2'.adv b4).adv b6).adv hb7) HYC.out (by omega)).mono ?_
      rintro e w8 ⟨A8, c8, rfl, hS8, hlc8, hcm8, hb8⟩
      have b8 := bel_adv hb7 hb8
      have hS4c := hS4b.adv b8
      have hS6b := hS6.adv b8
      clear hS7 hb7 hb8 hS4b hS6
      go_wp2_with fail
      refine (base_any _).mono ?_
      rintro e w9 ⟨A9, c9, rfl, hS9, hb9⟩
      go_wp2_with fail
      refine (Entries44_any A9 A2 c9 c2 baW ys _ hS9 baW_size (by simp [baW]) ((((hS2'.adv b4).adv b6).adv b8).adv hb9) HYC.out (by omega)).mono ?_
      rintro e w10 ⟨A10, c10, rfl, hS10, hlc10, hcm10, hb10⟩
      have b10 := bel_adv hb9 hb10
      have hS4d := hS4c.adv b10
      have hS6c := hS6b.adv b10
      have hS8b := hS8.adv b10
      clear hS9 hb9 hb10 hS4c hS6b hS8
      have hX10 := (((hX2.adv b4).adv b6).adv b8).adv b10
      have hbw10 := bel_adv (bel_adv (bel_adv (bel_adv hbw2 b4) b6) b8) b10
      clear hS2' b4 b6 b8 b10 hX2 hbw2
      go_wp2_with fail
      refine (wages44_any _).mono ?_
      rintro e w11 ⟨A11, c11, rfl, hS11, hb11⟩
      go_wp2_with fail
      refine (Entries_any A11 A c11 cap wages8 xs _ hS11 wages8_size (by rw [wages8_len]; omega) (hX10.adv hb11) HZ.out (by omega)).mono ?_
      rintro e w12 ⟨A12, c12, rfl, hS12, hlc12, hcm12, hb12⟩
      have b12 := bel_adv hb11 hb12
      clear hS11 hb11 hb12
      go_wp2_with fail
      refine (wages44_any _).mono ?_
      rintro e w13 ⟨A13, c13, rfl, hS13, hb13⟩
      go_wp2_with fail
      refine (Entries44_any A13 A c13 cap wages8 xs _ hS13 wages8_size (by rw [wages8_len]; omega) ((hX10.adv b12).adv hb13) HZ.out (by omega)).mono ?_
      rintro e w14 ⟨A14, c14, rfl, hS14, hlc14, hcm14, hb14⟩
      have b14 := bel_adv hb13 hb14
      have hS12b := hS12.adv b14
      have hT4 := (hS4d.adv b12).adv b14
      have hT6 := (hS6c.adv b12).adv b14
      have hT8 := (hS8b.adv b12).adv b14
      have hT10 := (hS10.adv b12).adv b14
      have hbw14 := bel_adv (bel_adv hbw10 b12) b14
      clear hS13 hb13 hb14 hS12 hS4d hS6c hS8b hS10 hX10 hbw10 b12 b14
      have m1l := eRes_len wages8 ys
      have m2l := eRes_len baW ys
      have m3l := eRes_len wages8 xs
      generalize eErr wages8 ys = e1 at *
      generalize eErr baW ys = e2 at *
      generalize eErr wages8 xs = e3 at *
      generalize eRes wages8 ys = m1 at *
      generalize eRes baW ys = m2 at *
      generalize eRes wages8 xs = m3 at *
      have n1 : (e1 == e1) = true := by simp
      have n2 : (e2 == e2) = true := by simp
      have n3 : (e3 == e3) = true := by simp
      go_wp2_with fail
      refine (same44_bw A4 A6 c4 c6 m1 _ hT4 hT6 (by omega)).mono ?_
      rintro e w15 ⟨rfl, hb15⟩
      go_wp2_with fail
      refine (same44_bw A8 A10 c8 c10 m2 _ (hT8.adv hb15) (hT10.adv hb15) (by omega)).mono ?_
      rintro e w16 ⟨rfl, hb16⟩
      go_wp2_with fail
      refine (same44_bw A12 A14 c12 c14 m3 _ ((hS12b.adv hb15).adv hb16) ((hS14.adv hb15).adv hb16) (by omega)).mono ?_
      rintro e w17 ⟨rfl, hb17⟩
      go_wp2_with fail
      refine (awake_any _).mono ?_
      rintro e w18 ⟨rfl, hb18⟩
      go_wp2
      go_ret
      exact ⟨rfl, bel_adv (bel_adv (bel_adv (bel_adv hbw14 hb15) hb16) hb17) hb18⟩

end Go.Proofs.Ytbiajkknpkeeoaa
