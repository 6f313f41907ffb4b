/- The walk of payrolllaw37.DeltaRecovers: it returns true and turns nothing that was there. Conditions: as stated. -/
import Derived.Test.YtnbfhnhneakajaaAwake37
namespace Go.Proofs.Ytnbfhnhneakajaa
open Go.RowKit

theorem ne_of_litA {w : World} {b : Nat} (h : b < w.heap.size) : ∀ a : Addr, some (⟨w.heap.size, 0, none⟩ : Addr) = some a → a.block ≠ b := fun a ha => by
  injection ha with ha; subst ha; show w.heap.size ≠ b; omega

set_option maxRecDepth 100000 in
set_option maxHeartbeats 4000000 in
theorem recovers_walk (B : Option Addr) (lcap : Nat) (l : List Int) (b n k s : Int) (w : World)
    (hI : SliceOf encI 1 w w.heap.size B l) (hIl : l.length ≤ 9223372036854775807) (hIb : ∀ x ∈ l, I64 x) :
    Calls Try.prog 4 #[.slice B l.length lcap, .int .i64 b, .int .i64 n, .int .i64 k, .int .i64 s] w fun e w' => e = .returned (.bool true) ∧ Below w.heap.size w w' := by
  go_enter Try.func4, Try.ntmps4
  go_wp2_with fail
  refine (new_any B l lcap _ hI hIl hIb).mono ?_
  rintro e w1 ⟨rfl, hd1, hb1⟩
  go_wp2_with fail
  refine (amount_any w.heap.size 0 _ (by omega) hd1).mono ?_
  rintro e w2 ⟨r2, rfl, ha2, hb2, hd2, hg2⟩
  go_wp2_with fail
  refine (small_any w.heap.size 2 _ (by omega) hd2).mono ?_
  rintro e w3 ⟨r3, rfl, ha3, hb3, hd3, hg3⟩
  go_wp2_with fail
  refine (amount_any w.heap.size 4 _ (by omega) hd3).mono ?_
  rintro e w4 ⟨r4, rfl, ha4, hb4, hd4, hg4⟩
  go_wp2_with fail
  refine (amount_any w.heap.size 6 _ (by omega) hd4).mono ?_
  rintro e w5 ⟨r5, rfl, ha5, hb5, hd5, hg5⟩
  go_wp2_with fail
  refine (amount_any w.heap.size 8 _ (by omega) hd5).mono ?_
  rintro e w6 ⟨r6, rfl, ha6, hb6, hd6, hg6⟩
  have hb16 : w1.grownBy w6 (some w.heap.size) := only_trans (only_trans (only_trans (only_trans hg2 hg3) hg4) hg5) hg6
  have hl6 := hd6.lt
  clear hd1 hd2 hd3 hd4 hd5 hg2 hg3 hg4 hg5 hg6
  go_wp2_with fail
  refine (pick_any w.heap.size 10 _ _ [r2, r2 - 1, r2 + 1, 0, -1, r2 - r3, r2 - r4, r2 + r5, -r6] _ (by omega) (hd6.alloc _) (by simp) (by simp) (lit_ints w6 _ _ rfl) (ne_of_litA hl6)).mono ?_
  rintro e w7 ⟨r7, rfl, hr7, hd7, hg7⟩
  have hb17 := only_trans (only_alloc hb16 _) hg7
  clear hg7 hb16 hd6 hr7
  by_cases hn1 : r2 - 1 < 0
  all_goals
    go_wp2_with fail
    refine (small_any w.heap.size (10 + 1) _ (by omega) hd7).mono ?_
    rintro e w8 ⟨r8, rfl, ha8, hb8, hd8, hg8⟩
    have hl8 := hd8.lt
    go_wp2_with fail
    refine (pick_any w.heap.size (10 + 1 + 2) _ _ [0, r2, r2 + 1, _, r8] _ (by omega) (hd8.alloc _) (by simp) (by simp) (lit_ints w8 _ _ rfl) (ne_of_litA hl8)).mono ?_
    rintro e w9 ⟨r9, rfl, hr9, hd9, hg9⟩
    go_wp2_with fail
    refine (rate_any w.heap.size (10 + 1 + 2 + 1) _ (by omega) hd9).mono ?_
    rintro e w10 ⟨r10, rfl, ha10, hb10, hd10, hg10⟩
    have hb110 := only_trans (only_trans (only_alloc (only_trans hb17 hg8) _) hg9) hg10
    have hbel10 := bel_only hb1 hb110 (fun g e => by injection e; omega)
    clear hd7 hd8 hd9 hd10 hg8 hg9 hg10 hr9 hb17 hb110
    go_wp2_with fail
    all_goals
      refine (recover_any _ _ _ _ _).mono ?_
      rintro e w11 ⟨rfl, q11, rfl⟩
      generalize hv1 : recV _ _ _ _ = v1
      obtain ⟨p1, p2, p3, hv⟩ : ∃ p1 p2 p3 : Int, v1 = .tuple #[.int .i64 p1, .int .i64 p2, .int .i64 p3] := by rw [← hv1]; exact recV_form _ _ _ _
      subst hv
      have HV := Lib.hid hv1
      clear hv1
      go_wp2_with fail
      all_goals
        refine (recover37_any _ _ _ _ _).mono ?_
        rintro e w12 ⟨rfl, rfl⟩
        rw [HV.out]
        go_wp2_with fail
        refine (recover_any b n k s _).mono ?_
        rintro e w13 ⟨rfl, q13, rfl⟩
        obtain ⟨p4, p5, p6, hv⟩ := recV_form b n k s
        rw [hv]
        have HV2 := Lib.hid hv
        clear hv
        go_wp2_with fail
        refine (recover37_any b n k s _).mono ?_
        rintro e w14 ⟨rfl, rfl⟩
        rw [HV2.out]
        go_wp2_with fail
        refine (awake_any _).mono ?_
        rintro e w15 ⟨rfl, hb15⟩
        go_wp2
        go_ret
        exact ⟨rfl, bel_adv (below_drewN hbel10 (q11 + q13)) hb15⟩

end Go.Proofs.Ytnbfhnhneakajaa
