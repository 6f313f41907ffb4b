/- The walk of payrolllaw37.DeltaPosts: it returns true and turns nothing that was there. Conditions: as stated. -/
import Derived.Test.YtnbfhnhneakajaaRecovers
namespace Go.Proofs.Ytnbfhnhneakajaa
open Go.RowKit

def shortLB (l : List LineT) : Bool := decide (l.length ≤ 60) && l.all fun x => decide (x.code.size ≤ 60)
set_option maxHeartbeats 400000 in
theorem shortL_any (A : Option Addr) (cap : Nat) (xs : List LineT) (w : World) (B : Nat) (h : SliceOf encL 3 w B A xs) (hl : xs.length ≤ 9223372036854775807) :
    Calls Try.prog 11 #[.slice A xs.length cap] w fun e w' => e = .returned (.bool (shortLB xs)) ∧ w = w' := by
  by_cases hlen : 60 < xs.length
  · have HV : Hid (shortLB xs = false) := by simp [Hid, shortLB]; intro; omega
    go_enter Try.func11, Try.ntmps11
    go_wp2
    go_ret
    exact ⟨by rw [HV.out]; rfl, rfl⟩
  · have hlen' : xs.length ≤ 60 := by omega
    clear hlen
    go_enter Try.func11, Try.ntmps11
    go_wp2
    go_loop [3] (fun i => ∃ k : Nat, k ≤ xs.length ∧ i = .int .i64 k ∧ Hid (∀ j, (hj : j < xs.length) → j < k → xs[j].code.size ≤ 60)) (fun i => xs.length - (intOf i).toNat)
    case atStart => exact ⟨0, by omega, rfl, fun j _ hj => absurd hj (by omega)⟩
    case round =>
      obtain ⟨k, hk, rfl, hall⟩ := hrel
      by_cases hlt : k < xs.length
      · obtain ⟨b, off, rfl, hb, hc⟩ := h.at_ hlt
        have c0 := hc 1 _ rfl
        try simp only [Nat.add_zero] at c0
        clear hc
        by_cases ht : 60 < xs[k].code.size
        · have HV : Hid (shortLB xs = false) := by
            simp only [Hid, shortLB, Bool.and_eq_false_iff, List.all_eq_false]
            exact .inr ⟨xs[k], List.getElem_mem _, by simp; omega⟩
          go_wp2
          go_ret
          exact ⟨by rw [HV.out]; rfl, rfl⟩
        · have ht' : xs[k].code.size ≤ 60 := by omega
          clear ht
          go_wp2
          go_round
          case rel =>
            refine ⟨k + 1, by omega, by go_num, fun j hj hjk => ?_⟩
            rcases Nat.lt_or_ge j k with h1 | h1
            · exact hall.out j hj h1
            · obtain rfl : j = k := by omega
              exact ht'
          case measure => simp [intOf]; omega
      · have HV : Hid (shortLB xs = true) := by
          simp only [Hid, shortLB, Bool.and_eq_true, List.all_eq_true, decide_eq_true_eq]
          refine ⟨hlen', fun x hx => ?_⟩
          obtain ⟨j, hj, rfl⟩ := List.mem_iff_getElem.1 hx
          exact hall.out j hj (by omega)
        go_wp2
        go_ret
        exact ⟨by rw [HV.out]; rfl, rfl⟩
theorem pR_len (r e p : Int) (a b : List LineT) : (pR r e p a b).length ≤ 131072 := by
  rw [pR]; split
  · rw [postR_len]; exact cR_len a b
  · simp
theorem lines_size {xs : List LineT} (h : ∀ x ∈ xs, LineOk x) : ∀ x ∈ xs, x.code.size ≤ maxLen := fun x hx => Nat.le_trans (h x hx).code (by unfold maxLen; omega)

set_option maxRecDepth 100000 in
set_option maxHeartbeats 4000000 in
theorem posts_walk (B X Y : Option Addr) (lcap xcap ycap : Nat) (l : List Int) (xs ys : List LineT) (run em per : Int) (w : World)
    (hI : SliceOf encI 1 w w.heap.size B l) (hIl : l.length ≤ 9223372036854775807) (hIb : ∀ x ∈ l, I64 x)
    (hX : SliceOf encL 3 w w.heap.size X xs) (hXz : ∀ x ∈ xs, x.code.size ≤ maxLen) (hXl : xs.length ≤ 9223372036854775807) (hY : SliceOf encL 3 w w.heap.size Y ys) (hYz : ∀ x ∈ ys, x.code.size ≤ maxLen) (hYl : ys.length ≤ 9223372036854775807) :
    Calls Try.prog 3 #[.slice B l.length lcap, .slice X xs.length xcap, .slice Y ys.length ycap, .int .i64 run, .int .i64 em, .int .i64 per] w fun e w' => e = .returned (.bool true) ∧ Below w.heap.size w w' := by
  have HXZ := Lib.hid hXz; clear hXz
  have HYZ := Lib.hid hYz; clear hYz
  rcases hs1 : shortLB xs with _ | _
  · go_enter Try.func3, Try.ntmps3
    go_wp2_with (go_at_call 11; refine (shortL_any X xcap xs _ _ hX hXl).mono ?_; rintro e w' ⟨rfl, rfl⟩)
    refine (awake_any _).mono ?_
    rintro e w5 ⟨rfl, hb5⟩
    go_wp2
    go_ret
    exact ⟨rfl, hb5⟩
  · rcases hs2 : shortLB ys with _ | _
    · go_enter Try.func3, Try.ntmps3
      go_wp2_with fail
      refine (shortL_any X xcap xs _ _ hX hXl).mono ?_
      rintro e w' ⟨rfl, rfl⟩
      go_wp2_with fail
      refine (shortL_any Y ycap ys _ _ hY hYl).mono ?_
      rintro e w' ⟨rfl, rfl⟩
      go_wp2_with fail
      refine (awake_any _).mono ?_
      rintro e w5 ⟨rfl, hb5⟩
      go_wp2
      go_ret
      exact ⟨rfl, hb5⟩
    · have hXl' : xs.length ≤ 60 := by simp [shortLB] at hs1; exact hs1.1
      have hYl' : ys.length ≤ 60 := by simp [shortLB] at hs2; exact hs2.1
      go_enter Try.func3, Try.ntmps3
      go_wp2_with fail
      refine (shortL_any X xcap xs _ _ hX hXl).mono ?_
      rintro e w' ⟨rfl, rfl⟩
      go_wp2_with fail
      refine (shortL_any Y ycap ys _ _ hY hYl).mono ?_
      rintro e w' ⟨rfl, rfl⟩
      go_wp2_with fail
      refine (new_any B l lcap _ hI hIl hIb).mono ?_
      rintro e w1 ⟨rfl, hd1, hb1⟩
      have hs1 := hd1.lt
      go_wp2_with fail
      refine (lines_any w.heap.size 0 6 _ (by omega) (by omega) hd1).mono ?_
      rintro e w2 ⟨v2, x2, rfl, hl2, hx2, hown2, hd2, hg2⟩
      have hsz2 := hg2.size
      obtain ⟨A2, c2, rfl, hS2, hB2, hlc2, hcm2⟩ := hown2.form2 encL_len
      have hA2 : ∀ a, A2 = some a → a.block ≠ w.heap.size := fun a ha => by have := hB2 a ha; omega
      go_wp2_with fail
      refine (lines_any w.heap.size (0 + 1 + 5 * 6) 6 _ (by omega) (by omega) hd2).mono ?_
      rintro e w3 ⟨v3, x3, rfl, hl3, hx3, hown3, hd3, hg3⟩
      have hsz3 := hg3.size
      obtain ⟨A3, c3, rfl, hS3, hB3, hlc3, hcm3⟩ := hown3.form2 encL_len
      have hA3 : ∀ a, A3 = some a → a.block ≠ w.heap.size := fun a ha => by have := hB3 a ha; omega
      have hlt3 := hd3.lt
      go_wp2_with fail
      refine (pick_any w.heap.size (0 + 1 + 5 * 6 + 1 + 5 * 6) _ _ [1, 5, 0, 256, 257] _ (by omega) (hd3.alloc _) (by simp) (by simp) (lit_ints w3 _ _ rfl) (ne_of_litA hlt3)).mono ?_
      rintro e w4 ⟨r4, rfl, hr4, hd4, hg4⟩
      have hlt4 := hd4.lt
      go_wp2_with fail
      refine (pick_any w.heap.size (0 + 1 + 5 * 6 + 1 + 5 * 6 + 1) _ _ [1, 9, 0] _ (by omega) (hd4.alloc _) (by simp) (by simp) (lit_ints w4 _ _ rfl) (ne_of_litA hlt4)).mono ?_
      rintro e w5 ⟨r5, rfl, hr5, hd5, hg5⟩
      have hlt5 := hd5.lt
      go_wp2_with fail
      refine (pick_any w.heap.size (0 + 1 + 5 * 6 + 1 + 5 * 6 + 1 + 1) _ _ [0, 3, -1, 84006] _ (by omega) (hd5.alloc _) (by simp) (by simp) (lit_ints w5 _ _ rfl) (ne_of_litA hlt5)).mono ?_
      rintro e w6 ⟨r6, rfl, hr6, hd6, hg6⟩
      have hg36 : w3.grownBy w6 (some w.heap.size) := only_trans (only_alloc (only_trans (only_alloc (only_trans (only_alloc (only_refl _ _) _) hg4) _) hg5) _) hg6
      have hS26 := (hS2.advG hg3 hA2).advG hg36 hA2
      have hS36 := hS3.advG hg36 hA3
      have hbel6 := bel_only (bel_only (bel_only hb1 hg2 (fun g e => by injection e; omega)) hg3 (fun g e => by injection e; omega)) hg36 (fun g e => by injection e; omega)
      have hX6 := hX.adv hbel6
      have hY6 := hY.adv hbel6
      have HZ2 := Lib.hid (lines_size hx2)
      have HZ3 := Lib.hid (lines_size hx3)
      clear hd1 hd2 hd3 hd4 hd5 hd6 hg2 hg3 hg4 hg5 hg6 hg36 hb1 hI hIb hS2 hS3 hB2 hB3 hA2 hA3 hown2 hown3 hX hY hx2 hx3 hr4 hr5 hr6
      go_wp2_with fail
      refine (postings_any r4 r5 r6 A2 A3 c2 c3 x2 x3 _ hS26 HZ2.out (by omega) hS36 HZ3.out (by omega)).mono ?_
      rintro e w7 ⟨v7, rfl, hown7, hb7⟩
      obtain ⟨A7, c7, rfl, hS7, hB7, hlc7, hcm7⟩ := hown7.form2 encP_len
      go_wp2_with fail
      refine (postings37_any r4 r5 r6 A2 A3 c2 c3 x2 x3 _ (hS26.adv hb7) HZ2.out (by omega) (hS36.adv hb7) HZ3.out (by omega)).mono ?_
      rintro e w8 ⟨v8, rfl, hown8, hb8⟩
      obtain ⟨A8, c8, rfl, hS8, hB8, hlc8, hcm8⟩ := hown8.form2 encP_len
      go_wp2_with fail
      refine (postings_any run em per X Y xcap ycap xs ys _ ((hX6.adv hb7).adv hb8) HXZ.out (by omega) ((hY6.adv hb7).adv hb8) HYZ.out (by omega)).mono ?_
      rintro e w9 ⟨v9, rfl, hown9, hb9⟩
      obtain ⟨A9, c9, rfl, hS9, hB9, hlc9, hcm9⟩ := hown9.form2 encP_len
      go_wp2_with fail
      refine (postings37_any run em per X Y xcap ycap xs ys _ (((hX6.adv hb7).adv hb8).adv hb9) HXZ.out (by omega) (((hY6.adv hb7).adv hb8).adv hb9) HYZ.out (by omega)).mono ?_
      rintro e w10 ⟨v10, rfl, hown10, hb10⟩
      obtain ⟨A10, c10, rfl, hS10, hB10, hlc10, hcm10⟩ := hown10.form2 encP_len
      have hT7 := ((hS7.adv hb8).adv hb9).adv hb10
      have hT8 := (hS8.adv hb9).adv hb10
      have hT9 := hS9.adv hb10
      have hbel10 := bel_adv (bel_adv (bel_adv (bel_adv hbel6 hb7) hb8) hb9) hb10
      have hL1 := pR_len r4 r5 r6 x2 x3
      have hL2 := pR_len run em per xs ys
      clear hS7 hS8 hS9 hown7 hown8 hown9 hown10 hB7 hB8 hB9 hB10 hb7 hb8 hb9 hb10 hbel6 hS26 hS36 hX6 hY6
      go_wp2_with fail
      refine (sameP_self A7 A8 c7 c8 _ _ hT7 hT8 (by omega)).mono ?_
      rintro e w11 ⟨rfl, q11, rfl⟩
      go_wp2_with fail
      refine (sameP_self A9 A10 c9 c10 _ _ (hT9.advD q11) (hS10.advD q11) (by omega)).mono ?_
      rintro e w12 ⟨rfl, q12, rfl⟩
      go_wp2_with fail
      refine (awake_any _).mono ?_
      rintro e w13 ⟨rfl, hb13⟩
      go_wp2
      go_ret
      exact ⟨rfl, bel_adv (below_drewN hbel10 (q11 + q12)) hb13⟩

end Go.Proofs.Ytnbfhnhneakajaa
