/- The walk of payrolllaw44.LedgerPaid: it returns true and turns nothing that was there. Conditions: as stated. -/
import Derived.Test.YtbiajkknpkeeoaaAwake44
import Derived.Test.YtbiajkknpkeeoaaPaid
import Derived.Test.YtbiajkknpkeeoaaSame44
namespace Go.Proofs.Ytbiajkknpkeeoaa
open Go.RowKit

set_option maxRecDepth 100000 in
set_option maxHeartbeats 4000000 in
theorem paid44_walk (B A : Option Addr) (lcap cap : Nat) (run : Int) (l : List Int) (xs : List PayT) (w : World) (hI : SliceOf encI 1 w w.heap.size B l) (hIl : l.length ≤ 9223372036854775807) (hIb : ∀ x ∈ l, I64 x)
    (h : SliceOf encM 2 w w.heap.size A xs) (hl : xs.length ≤ 9223372036854775807) :
    Calls Try.prog 8 #[.slice B l.length lcap, .int .i64 run, .slice A xs.length cap] w fun e w' => e = .returned (.bool true) ∧ Below w.heap.size w w' := by
  by_cases h60 : 60 < xs.length
  · go_enter Try.func8, Try.ntmps8
    go_wp2_with fail
    refine (awake_any _).mono ?_
    rintro e w5 ⟨rfl, hb5⟩
    go_wp2
    go_ret
    exact ⟨rfl, hb5⟩
  go_enter Try.func8, Try.ntmps8
  go_wp2_with fail
  refine (new_any B l lcap _ hI hIl hIb).mono ?_
  rintro e w1 ⟨rfl, hd1, hb1⟩
  go_wp2_with fail
  refine (payments_any _ 0 6 _ (by omega) (by omega) hd1).mono ?_
  rintro e w2 ⟨v2, ys, rfl, hyl, hown2, hd2, hg2⟩
  have hb2 : Below w.heap.size w w2 := bel_only hb1 hg2 (fun g e => by injection e; omega)
  have hltd := hd2.lt
  go_wp2_with fail
  refine (pick_new _ _ w2 [0, 1, 256, 257, -1] _ _ _ rfl rfl (by omega) hd2 (by simp) (by simp)).mono ?_
  rintro e w3 ⟨r3, rfl, hm3, hd3, hg3⟩
  have hb3 : Below w.heap.size w w3 := bel_only hb2 hg3 (fun g e => by injection e; omega)
  have hs1 := hd1.lt
  have hown3 := hown2.kept hg3 (by intro g e; injection e; omega)
  obtain ⟨A2, c2, rfl, hS2, hB2, hlc2, hcm2⟩ := hown3.form2 encM_len
  have hX3 := h.adv hb3
  clear hB2 hown2 hown3 hg2 hg3 hd1 hd2 hd3 hb1 hb2 hI hm3
  go_wp2_with fail
  refine (paid_any r3 A2 c2 ys _ hS2 (by omega)).mono ?_
  rintro e w4 ⟨A4, c4, rfl, hS4, hlc4, hcm4, hb4⟩
  go_wp2_with fail
  refine (paid44_any r3 A2 c2 ys _ (hS2.adv hb4) (by omega)).mono ?_
  rintro e w5 ⟨A5, c5, rfl, hS5, hlc5, hcm5, hb5⟩
  go_wp2_with fail
  refine (paid_any run A cap xs _ ((hX3.adv hb4).adv hb5) (by omega)).mono ?_
  rintro e w6 ⟨A6, c6, rfl, hS6, hlc6, hcm6, hb6⟩
  go_wp2_with fail
  refine (paid44_any run A cap xs _ (((hX3.adv hb4).adv hb5).adv hb6) (by omega)).mono ?_
  rintro e w7 ⟨A7, c7, rfl, hS7, hlc7, hcm7, hb7⟩
  have hT4 := ((hS4.adv hb5).adv hb6).adv hb7
  have hT5 := (hS5.adv hb6).adv hb7
  have hT6 := hS6.adv hb7
  have hbel7 := bel_adv (bel_adv (bel_adv (bel_adv hb3 hb4) hb5) hb6) hb7
  have hm1 := paidR_len r3 ys
  have hm2 := paidR_len run xs
  have HBAL := Lib.hid (paid_bal r3 ys)
  clear hS2 hX3 hS4 hS5 hS6 hb4 hb5 hb6 hb7 hb3
  generalize paidErr r3 ys = e1 at *
  generalize paidErr run xs = e2 at *
  generalize paidR r3 ys = m1 at *
  generalize paidR run xs = m2 at *
  have n1 : (e1 == e1) = true := by simp
  have n2 : (e2 == e2) = true := by simp
  go_wp2_with fail
  refine (same44_bw A4 A5 c4 c5 m1 _ hT4 hT5 (by omega)).mono ?_
  rintro e w8 ⟨rfl, hb8⟩
  go_wp2_with fail
  refine (same44_bw A6 A7 c6 c7 m2 _ (hT6.adv hb8) (hS7.adv hb8) (by omega)).mono ?_
  rintro e w9 ⟨rfl, hb9⟩
  go_wp2_with fail
  refine (balanced_any A4 c4 m1 _ ((hT4.adv hb8).adv hb9) (by omega)).mono ?_
  rintro e w10 ⟨rfl, hb10⟩
  rw [HBAL.out]
  go_wp2_with fail
  refine (awake_any _).mono ?_
  rintro e w11 ⟨rfl, hb11⟩
  go_wp2
  go_ret
  exact ⟨rfl, bel_adv (bel_adv (bel_adv (bel_adv hbel7 hb8) hb9) hb10) hb11⟩

end Go.Proofs.Ytbiajkknpkeeoaa
