/- The walk of payrolllaw37.DeltaProtects: it returns true and turns nothing that was there. Conditions: as stated. -/
import Derived.Test.YtnbfhnhneakajaaRecovers
namespace Go.Proofs.Ytnbfhnhneakajaa
open Go.RowKit

/-- The part at a rate, rounded toward zero, times a million is at most the product. -/
theorem part_down (a num : Int) (h1 : 0 ≤ a) (h2 : a ≤ 1000000000000) (h3 : 0 ≤ num) (h4 : num ≤ 1000000) : partN a num 1000000 1 0 * 1000000 ≤ a * num := by
  obtain ⟨E1, _, _⟩ := rate_part a num 0 h1 h2 h3 h4 rfl
  have hN : 0 ≤ a * num := Int.mul_nonneg h1 h3
  rw [partN, if_pos E1, partX, rnd, Int.mul_one, show (1000000 : Int) * 1 = 1000000 from rfl]
  generalize a * num = N at *
  split
  · omega
  · rename_i hr
    have hp : 0 < N := by
      rcases Int.lt_or_eq_of_le hN with h | h
      · exact h
      · subst h; simp at hr
    have : upB (N / 1000000) (cmpI (N % 1000000) (1000000 - N % 1000000)) (decide (0 < N)) 0 = false := by simp [upB, hp]
    rw [this]
    simp
    omega
/-- The law on protected pay. -/
theorem protects_law (n k s b : Int) (hn : 0 ≤ n) (hn2 : n ≤ 600000) (hk : 0 ≤ k) (hk2 : k ≤ 600000) (hs : 0 ≤ s) (hs2 : s ≤ 1000000) (hb : -6000000 ≤ b) (hb2 : b ≤ 1200000) :
    ∃ p r : Int, recV b n k s = .tuple #[.int .i64 p, .int .i64 r, .int .i64 0] ∧ p + r = b ∧ -10000000 ≤ p ∧ p ≤ 10000000 ∧ -10000000 ≤ r ∧ r ≤ 10000000 ∧ (n ≤ b → p = b ∧ r = 0) ∧
      (b < n → n ≤ p ∨ k ≤ p) ∧ (b < n → p ≤ n ∧ b ≤ p ∧ (n - p) * 1000000 ≤ n * s ∧ r ≤ 0) := by
  have hok : recOk b n k s = true := by simp only [recOk, inB_yes (show -1000000000000 ≤ b by omega) (show b ≤ 1000000000000 by omega), inB_yes hn (show n ≤ 1000000000 by omega), inB_yes hk (show k ≤ 1000000000 by omega), inB_yes hs hs2, Bool.and_self]
  refine ⟨recPay b n k s, b - recPay b n k s, by rw [recV, hok, if_pos rfl], by omega, ?_⟩
  by_cases h : n ≤ b
  · have e : recPay b n k s = b := by rw [recPay, if_pos h]
    rw [e]
    refine ⟨by omega, by omega, by omega, by omega, fun _ => ⟨rfl, by omega⟩, fun h' => by omega, fun h' => by omega⟩
  · have e : recPay b n k s = n - holdN (n - b) n k s := by rw [recPay, if_neg h]
    obtain ⟨b1, b2, b3⟩ := holdN_bd (n - b) n k s (by omega) hn (by omega) hs hs2
    have hd := part_down n s hn (by omega) hs hs2
    have hle : holdN (n - b) n k s ≤ partN n s 1000000 1 0 := by unfold holdN; omega
    have hle2 : holdN (n - b) n k s ≤ max (n - k) 0 := by unfold holdN; omega
    rw [e]
    generalize holdN (n - b) n k s = hh at *
    generalize partN n s 1000000 1 0 = pp at *
    refine ⟨by omega, by omega, by omega, by omega, fun h' => by omega, fun _ => by omega, fun _ => ⟨by omega, by omega, by omega, by omega⟩⟩

set_option maxRecDepth 100000 in
set_option maxHeartbeats 4000000 in
theorem protects_walk (B : Option Addr) (lcap : Nat) (l : List Int) (w : World)
    (hI : SliceOf encI 1 w w.heap.size B l) (hIl : l.length ≤ 9223372036854775807) (hIb : ∀ x ∈ l, I64 x) :
    Calls Try.prog 5 #[.slice B l.length lcap] w fun e w' => e = .returned (.bool true) ∧ Below w.heap.size w w' := by
  go_enter Try.func5, Try.ntmps5
  go_wp2_with fail
  refine (new_any B l lcap _ hI hIl hIb).mono ?_
  rintro e w1 ⟨rfl, hd1, hb1⟩
  go_wp2_with fail
  refine (small_any w.heap.size 0 _ (by omega) hd1).mono ?_
  rintro e w2 ⟨n, rfl, ha2, hb2, hd2, hg2⟩
  go_wp2_with fail
  refine (small_any w.heap.size 2 _ (by omega) hd2).mono ?_
  rintro e w3 ⟨k, rfl, ha3, hb3, hd3, hg3⟩
  go_wp2_with fail
  refine (rate_any w.heap.size 4 _ (by omega) hd3).mono ?_
  rintro e w4 ⟨s, rfl, ha4, hb4, hd4, hg4⟩
  go_wp2_with fail
  refine (small_any w.heap.size 6 _ (by omega) hd4).mono ?_
  rintro e w5 ⟨r5, rfl, ha5, hb5, hd5, hg5⟩
  go_wp2_with fail
  refine (small_any w.heap.size 8 _ (by omega) hd5).mono ?_
  rintro e w6 ⟨r6, rfl, ha6, hb6, hd6, hg6⟩
  go_wp2_with fail
  refine (small_any w.heap.size 10 _ (by omega) hd6).mono ?_
  rintro e w7 ⟨r7, rfl, ha7, hb7, hd7, hg7⟩
  have hl7 := hd7.lt
  go_wp2_with fail
  refine (pick_any w.heap.size 12 _ _ [0, 1, r5, 10 * r6, -r7] _ (by omega) (hd7.alloc _) (by simp) (by simp) (lit_ints w7 _ _ rfl) (ne_of_litA hl7)).mono ?_
  rintro e w8 ⟨r8, rfl, hr8, hd8, hg8⟩
  have hr8' : -600000 ≤ r8 ∧ r8 ≤ 6000000 := by simp at hr8; omega
  obtain ⟨hr8a, hr8b⟩ := hr8'
  have hb18 : w1.grownBy w8 (some w.heap.size) := only_trans (only_alloc (only_trans (only_trans (only_trans (only_trans (only_trans hg2 hg3) hg4) hg5) hg6) hg7) _) hg8
  have hbel8 := bel_only hb1 hb18 (fun g e => by injection e; omega)
  clear hd1 hd2 hd3 hd4 hd5 hd6 hd7 hd8 hg2 hg3 hg4 hg5 hg6 hg7 hg8 hr8 hb18 hb1 hI hIb
  obtain ⟨p, r, hv, hpr, hp1, hp2, hr1, hr2, L1, L2, L3⟩ := protects_law n k s (n - r8) ha2 (by omega) ha3 (by omega) ha4 hb4 (by omega) (by omega)
  have HV := Lib.hid hv
  have HPR := Lib.hid hpr
  have HL1 := Lib.hid L1
  have HL2 := Lib.hid L2
  have HL3 := Lib.hid L3
  clear hv hpr L1 L2 L3
  go_wp2_with fail
  refine (recover_any (n - r8) n k s _).mono ?_
  rintro e w9 ⟨rfl, q9, rfl⟩
  rw [HV.out]
  have hsum : (p + r != n - r8) = false := by simp [HPR.out]
  by_cases hb : n ≤ n - r8
  · obtain ⟨x1, x2⟩ := HL1.out hb
    have x1' : (p == n - r8) = true := by simp [x1]
    have x2' : (r == 0) = true := by simp [x2]
    clear x1 x2
    go_wp2_with fail
    refine (awake_any _).mono ?_
    rintro e w10 ⟨rfl, hb10⟩
    go_wp2
    go_ret
    exact ⟨rfl, bel_adv (below_drewN hbel8 q9) hb10⟩
  · have y0 := HL2.out (by omega)
    obtain ⟨y1, y2, y3, y4⟩ := HL3.out (by omega)
    have hm1 := mul_bd n s 600000 1000000 (by omega) (by omega) ha4 hb4 (by omega)
    obtain ⟨m1, m2⟩ := hm1
    have y5 : n - p ≤ n - (n - r8) := by omega
    by_cases hkn : k < n
    · have y6 : k ≤ p := by omega
      go_wp2_with fail
      refine (awake_any _).mono ?_
      rintro e w10 ⟨rfl, hb10⟩
      go_wp2
      go_ret
      exact ⟨rfl, bel_adv (below_drewN hbel8 q9) hb10⟩
    · have y6 : n ≤ p := by omega
      go_wp2_with fail
      refine (awake_any _).mono ?_
      rintro e w10 ⟨rfl, hb10⟩
      go_wp2
      go_ret
      exact ⟨rfl, bel_adv (below_drewN hbel8 q9) hb10⟩

end Go.Proofs.Ytnbfhnhneakajaa
