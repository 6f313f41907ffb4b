/- The walk of payrolllaw44.LedgerLimits: it returns true and turns nothing that was there. Conditions: none. -/
import Derived.Test.YtbiajkknpkeeoaaAwake44
import Derived.Test.YtbiajkknpkeeoaaTrial
import Derived.Test.YtbiajkknpkeeoaaLimP
import Derived.Laws.MakeOwn
namespace Go.Proofs.Ytbiajkknpkeeoaa
open Go.RowKit

def mkCs (n : Nat) : Array Value := madeCells #[.int .i64 0, .int .i64 0, .int .i64 0] (n * 3)
theorem make_run (n : Nat) (hn : n ≤ 200000) (w : World) : (Instr.makeSlice 32 (.int .i64 (n : Int)) (.int .i64 (n : Int))).run Try.prog w = .ok (.slice (some ⟨w.heap.size, 0, none⟩) n n) (w.alloc (.cells (mkCs n) 42)) := by
  obtain ⟨i, hi, hz, hs, hb⟩ := info_parts infoB
  have h := run_make (P := Try.prog) w 32 42 i _ Try.underlying32 hi hz .i64 .i64 n n (by omega) (by omega) (by rw [hb]; omega) (by omega)
  rw [Int.toNat_natCast, hs] at h
  exact h
/-- The row with its first k entries written. -/
def Filled (w : World) (g n k : Nat) : Prop := ∃ cs : Array Value, Blk w g 42 cs ∧ cs.size = n * 3 ∧ ∀ i, i < k → cs[i * 3]? = some (.int .i64 1) ∧ cs[i * 3 + 1]? = some (.int .i64 (100 + (i : Int) % 2)) ∧ cs[i * 3 + 2]? = some (.int .i64 (1 - 2 * ((i : Int) % 2)))
theorem Filled.slice {w : World} {g n : Nat} (h : Filled w g n n) : SliceOf encB 3 w w.heap.size (some ⟨g, 0, none⟩) (alt 1 n) := fun _ => by
  obtain ⟨cs, hB, hs, hc⟩ := h
  refine ⟨g, 0, rfl, hB.lt, fun i x hi j v hj => ?_⟩
  obtain ⟨hi', rfl⟩ := List.getElem?_eq_some_iff.1 hi
  rw [alt_len] at hi'
  obtain ⟨a0, a1, a2⟩ := hc i hi'
  simp only [alt, List.getElem_map, List.getElem_range, encB, altX] at hj
  rw [Nat.zero_add, hB.cell]
  match j, hj with
  | 0, hj => simp at hj; subst hj; exact a0
  | 1, hj => simp at hj; subst hj; exact a1
  | 2, hj => simp at hj; subst hj; exact a2
  | (m + 3), hj => simp at hj
theorem Filled.step {w : World} {g n k : Nat} {cs : Array Value} (hB : Blk w g 42 cs) (hs : cs.size = n * 3) (hk : k < n) (hc : ∀ i, i < k → cs[i * 3]? = some (.int .i64 1) ∧ cs[i * 3 + 1]? = some (.int .i64 (100 + (i : Int) % 2)) ∧ cs[i * 3 + 2]? = some (.int .i64 (1 - 2 * ((i : Int) % 2)))) :
    Filled (((w.setCell ⟨g, k * 3, none⟩ (.int .i64 1)).setCell ⟨g, k * 3 + 1, none⟩ (.int .i64 (100 + (k : Int) % 2))).setCell ⟨g, k * 3 + 2, none⟩ (.int .i64 (1 - 2 * ((k : Int) % 2)))) g n (k + 1) := by
  refine ⟨_, ((hB.set_ _ _).set_ _ _).set_ _ _, by simp [hs], fun i hi => ?_⟩
  rcases Nat.lt_or_ge i k with h | h
  · obtain ⟨a0, a1, a2⟩ := hc i h
    refine ⟨?_, ?_, ?_⟩
    all_goals
      rw [Array.getElem?_setIfInBounds_ne (by omega), Array.getElem?_setIfInBounds_ne (by omega), Array.getElem?_setIfInBounds_ne (by omega)]
    · exact a0
    · exact a1
    · exact a2
  · obtain rfl : i = k := by omega
    refine ⟨?_, ?_, ?_⟩
    · rw [Array.getElem?_setIfInBounds_ne (by omega), Array.getElem?_setIfInBounds_ne (by omega), Array.getElem?_setIfInBounds_self_of_lt (by omega)]
    · rw [Array.getElem?_setIfInBounds_ne (by omega), Array.getElem?_setIfInBounds_self_of_lt (by simp; omega)]
    · rw [Array.getElem?_setIfInBounds_self_of_lt (by simp; omega)]
theorem li_merge (n c : Nat) (A : Option Addr) (w : World) (hn : n ≤ 200000) (h : SliceOf encB 3 w w.heap.size A (alt 1 n)) :
    Calls Try.prog 18 #[.slice A n c] w (BPost (mRB (alt 1 n)) (mErrB (alt 1 n)) w) := by
  have := mergeB_any A c (alt 1 n) w h (by rw [alt_len]; omega)
  rw [alt_len] at this
  exact this
theorem li_trial (n c : Nat) (A : Option Addr) (w : World) (hn : n ≤ 200000) (h : SliceOf encB 3 w w.heap.size A (alt 1 n)) :
    Calls Try.prog 19 #[.slice A n c] w (BPost (mRB (alt 0 n)) (mErrB (alt 0 n)) w) := by
  have := trial_any A c (alt 1 n) w h (by rw [alt_len]; omega)
  rw [alt_len, alt_zero] at this
  exact this
theorem li_bal (n c : Nat) (A : Option Addr) (w : World) (hn : n ≤ 200000) (h : SliceOf encB 3 w w.heap.size A (alt 1 n)) :
    Calls Try.prog 20 #[.slice A n c] w fun e w' => e = .returned (.bool (balB (alt 1 n))) ∧ Below w.heap.size w w' := by
  have := balanced_any A c (alt 1 n) w h (by rw [alt_len]; omega)
  rw [alt_len] at this
  exact this

set_option maxRecDepth 100000 in
set_option maxHeartbeats 4000000 in
theorem limits44_walk (n : Int) (w : World) :
    Calls Try.prog 4 #[.int .i64 n] w fun e w' => e = .returned (.bool true) ∧ Below w.heap.size w w' := by
  go_enter Try.func4, Try.ntmps4
  go_wp2_with fail
  refine (mod_any _ _ _ (by omega) (by omega)).mono ?_
  rintro e w1 ⟨rfl, rfl⟩
  generalize hr : n % 3 = r
  have h0 : 0 ≤ r := by omega
  have h1 : r < 3 := by omega
  obtain ⟨j, rfl⟩ := Int.eq_ofNat_of_zero_le h0
  clear hr
  obtain ⟨m, hm⟩ : ∃ m : Nat, m = 131071 + j := ⟨_, rfl⟩
  have hm1 : 131071 ≤ m := by omega
  have hm2 : m ≤ 131073 := by omega
  have hmk := make_run m (by omega)
  have ec : (131071 : Int) + (j : Int) = (m : Int) := by omega
  have EC := Lib.hid ec
  clear ec hm
  go_upto_region 2 with fail
  rw [EC.out]
  clear EC h0 h1
  go_wp2_with fail
  have hF0 : Filled (w.alloc (.cells (mkCs m) 42)) w.heap.size m 0 := ⟨_, Blk.new _ _ _, by simp [mkCs, size_madeCells], fun i hi => absurd hi (by omega)⟩
  go_loopw [5] (fun i wr => ∃ k : Nat, k ≤ m ∧ i = .int .i64 k ∧ Filled wr w.heap.size m k ∧ Below w.heap.size w wr) (fun i _ => m - (intOf i).toNat)
  case atStart => exact ⟨0, by omega, rfl, hF0, below_new _ _⟩
  case round =>
    clear hF0
    obtain ⟨k, hk, rfl, ⟨cs, hB, hsz, hcs⟩, hbel⟩ := hrel
    have hlg := hB.lt
    by_cases hlt : k < m
    · have e0 := hB.cell (k * 3)
      have e1 := hB.cell (k * 3 + 1)
      have e2 := hB.cell (k * 3 + 2)
      rw [Array.getElem?_eq_getElem (by omega)] at e0 e1 e2
      have f0 := hB.frozen (k * 3)
      have f1 := hB.frozen (k * 3 + 1)
      have f2 := hB.frozen (k * 3 + 2)
      have HST := Lib.hid (Filled.step hB hsz hlt hcs)
      have HBL := Lib.hid (bel_set (bel_set (bel_set hbel (Nat.le_refl _) (k * 3) (.int .i64 1)) (Nat.le_refl _) (k * 3 + 1) (.int .i64 (100 + (k : Int) % 2))) (Nat.le_refl _) (k * 3 + 2) (.int .i64 (1 - 2 * ((k : Int) % 2))))
      generalize cs[k * 3]'(by omega) = x0 at e0
      generalize cs[k * 3 + 1]'(by omega) = x1 at e1
      generalize cs[k * 3 + 2]'(by omega) = x2 at e2
      clear hcs hsz hB hbel
      go_wp2_with fail
      go_roundw
      case rel => exact ⟨k + 1, by omega, by go_num, HST.out, HBL.out⟩
      case measure => simp [intOf]; omega
    · obtain rfl : k = m := by omega
      have hF : Filled wr w.heap.size k k := ⟨cs, hB, hsz, hcs⟩
      have hSl := hF.slice
      clear hF hB hsz hcs hmk
      by_cases hj : 131072 < k
      · obtain ⟨E1, E2, E3⟩ := alt_long 1 k hj
        obtain ⟨E4, E5, _⟩ := alt_long 0 k hj
        have HE1 := Lib.hid E1
        have HE2 := Lib.hid E2
        have HE3 := Lib.hid E3
        have HE4 := Lib.hid E4
        have HE5 := Lib.hid E5
        clear E1 E2 E3 E4 E5
        go_wp2_with fail
        refine (li_merge k k _ _ (by omega) hSl).mono ?_
        rintro e w2 ⟨A2, c2, rfl, hS2, hlc2, hcm2, hb2⟩
        rw [HE1.out]
        rw [HE2.out] at hS2 hlc2 ⊢
        have hSl2 := hSl.adv hb2
        have hbel2 := bel_adv hbel hb2
        clear hSl hb2 hbel hS2
        go_wp2_with fail
        refine (li_trial k k _ _ (by omega) hSl2).mono ?_
        rintro e w3 ⟨A3, c3, rfl, hS3, hlc3, hcm3, hb3⟩
        rw [HE4.out]
        rw [HE5.out] at hS3 hlc3 ⊢
        have hSl3 := hSl2.adv hb3
        have hbel3 := bel_adv hbel2 hb3
        clear hSl2 hb3 hbel2 hS3
        go_wp2_with fail
        refine (li_bal k k _ _ (by omega) hSl3).mono ?_
        rintro e w4 ⟨rfl, hb4⟩
        rw [HE3.out]
        go_wp2_with fail
        refine (awake_any _).mono ?_
        rintro e w5 ⟨rfl, hb5⟩
        go_wp2
        go_ret
        exact ⟨rfl, bel_adv (bel_adv hbel3 hb4) hb5⟩
      · obtain ⟨E1, E2⟩ := alt_merge 1 (by omega) (by omega) k (by omega) (by omega)
        obtain ⟨E4, E5⟩ := alt_merge 0 (by omega) (by omega) k (by omega) (by omega)
        have E3 := alt_bal k (by omega) (by omega)
        have HE1 := Lib.hid E1
        have HE2 := Lib.hid E2
        have HE3 := Lib.hid E3
        have HE4 := Lib.hid E4
        have HE5 := Lib.hid E5
        clear E1 E2 E3 E4 E5
        go_wp2_with fail
        refine (li_merge k k _ _ (by omega) hSl).mono ?_
        rintro e w2 ⟨A2, c2, rfl, hS2, hlc2, hcm2, hb2⟩
        rw [HE1.out]
        rw [HE2.out] at hS2 hlc2 ⊢
        have hSl2 := hSl.adv hb2
        have hbel2 := bel_adv hbel hb2
        clear hSl hb2 hbel
        rw [show (altR 1 k).length = 2 from rfl]
        go_wp2_with fail
        refine (li_trial k k _ _ (by omega) hSl2).mono ?_
        rintro e w3 ⟨A3, c3, rfl, hS3, hlc3, hcm3, hb3⟩
        rw [HE4.out]
        rw [HE5.out] at hS3 hlc3 ⊢
        rw [show (altR 0 k).length = 2 from rfl]
        have hSl3 := hSl2.adv hb3
        have hbel3 := bel_adv hbel2 hb3
        obtain ⟨b, off, rfl, hb, hc⟩ := (hS2.adv hb3) (by simp [altR])
        have g0 := hc 0 _ rfl 2 _ rfl
        have g1 := hc 1 _ rfl 2 _ rfl
        simp only [Nat.zero_mul, Nat.add_zero, Nat.one_mul, Nat.add_assoc, Nat.reduceAdd] at g0 g1
        have hcell0 : w3.cell? ⟨b, off + 2, none⟩ = some (.int .i64 (((k : Int) + 1) / 2)) := g0
        have hcell1 : w3.cell? ⟨b, off + 5, none⟩ = some (.int .i64 (-((k : Int) / 2))) := g1
        have q1 : ((((k : Int) + 1) / 2) == (((k : Int) + 1) / 2)) = true := by simp
        have q2 : ((-((k : Int) / 2)) == (-((k : Int) / 2))) = true := by simp
        clear hSl2 hb3 hbel2 hS3 hS2 hc g0 g1
        go_wp2_with fail
        refine (li_bal k k _ _ (by omega) hSl3).mono ?_
        rintro e w4 ⟨rfl, hb4⟩
        rw [HE3.out]
        by_cases hpar : (k : Int) % 2 = 0
        · have hp1 : decide ((k : Int) % 2 = 0) = true := by simpa using hpar
          have hp2 : ((k : Int) % 2 == 0) = true := by simpa using hpar
          rw [hp1]
          clear hp1
          go_wp2_with fail
          refine (awake_any _).mono ?_
          rintro e w5 ⟨rfl, hb5⟩
          go_wp2
          go_ret
          exact ⟨rfl, bel_adv (bel_adv hbel3 hb4) hb5⟩
        · have hp1 : decide ((k : Int) % 2 = 0) = false := by simpa using hpar
          have hp2 : ((k : Int) % 2 == 0) = false := by simpa using hpar
          rw [hp1]
          clear hp1
          go_wp2_with fail
          refine (awake_any _).mono ?_
          rintro e w5 ⟨rfl, hb5⟩
          go_wp2
          go_ret
          exact ⟨rfl, bel_adv (bel_adv hbel3 hb4) hb5⟩

end Go.Proofs.Ytbiajkknpkeeoaa
