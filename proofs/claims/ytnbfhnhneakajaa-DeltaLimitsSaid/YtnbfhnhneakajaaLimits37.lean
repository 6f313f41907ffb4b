/- The walk of payrolllaw37.DeltaLimits: it returns true and turns nothing that was there. Conditions: none. -/
import Derived.Test.YtnbfhnhneakajaaRecovers
import Derived.Test.YtnbfhnhneakajaaSched2
import Derived.Laws.MakeOwn
namespace Go.Proofs.Ytnbfhnhneakajaa
open Go.RowKit

def liR (n : Nat) : List Int := List.replicate n 100
theorem liR_len (n : Nat) : (liR n).length = n := by simp [liR]
theorem hold10 (d : Int) (h : 10 ≤ d) : holdN d 100 0 100000 = 10 := by
  have h1 : partN 100 100000 1000000 1 0 = 10 := by decide +kernel
  rw [holdN, h1]; omega
theorem sched_li : ∀ (n : Nat) (d : Int) (out : List Int), (n : Int) * 10 ≤ d → ((liR n).foldl (stepS 0 100000) (out, d)).1 = out ++ List.replicate n 10 := by
  intro n
  induction n with
  | zero => intro d out _; simp [liR]
  | succ n ih =>
    intro d out h
    have h2 : ((n + 1 : Nat) : Int) * 10 = (n : Int) * 10 + 10 := by omega
    rw [liR, List.replicate_succ, List.foldl_cons, stepS, hold10 d (by omega)]
    have := ih (d - 10) (out ++ [10]) (by omega)
    rw [liR] at this
    rw [this, List.append_assoc, List.replicate_succ]; rfl
theorem li_ok (n : Nat) (h : n ≤ 1024) : sErr ((n : Int) * 10) (liR n) 0 100000 = 0 ∧ sR ((n : Int) * 10) (liR n) 0 100000 = List.replicate n 10 := by
  have hok : sOk ((n : Int) * 10) (liR n) 0 100000 = true := by
    have h2 : (liR n).all (fun n => inB n 0 1000000000) = true := by
      rw [List.all_eq_true]
      intro x hx
      obtain rfl := List.eq_of_mem_replicate hx
      decide
    rw [sOk, inB_yes (by omega) (by omega), h2]; decide
  have he := sErr_yes (debt := (n : Int) * 10) (keep := 0) (share := 100000) (nets := liR n) (by rw [liR_len]; exact h) hok
  refine ⟨he, ?_⟩
  rw [sR, if_pos he, schedS, sched_li n _ _ (by omega)]; rfl
theorem li_no (n : Nat) (h : 1024 < n) : sErr ((n : Int) * 10) (liR n) 0 100000 = 3 ∧ sR ((n : Int) * 10) (liR n) 0 100000 = [] := by
  have he : sErr ((n : Int) * 10) (liR n) 0 100000 = 3 := by rw [sErr, if_pos (by rw [liR_len]; exact h)]
  exact ⟨he, sR_nil he (by omega)⟩
theorem li_sched (n c : Nat) (A : Option Addr) (w : World) (hn : n ≤ 2000) (h : SliceOf encI 1 w w.heap.size A (liR n)) :
    Calls Try.prog 26 #[.int .i64 ((n : Int) * 10), .slice A n c, .int .i64 0, .int .i64 100000] w (IntsPost (sR ((n : Int) * 10) (liR n) 0 100000) (sErr ((n : Int) * 10) (liR n) 0 100000) w) := by
  have := schedule_any ((n : Int) * 10) 0 100000 A c (liR n) w h (by rw [liR_len]; omega)
  rw [liR_len] at this
  exact this

def mkI (n : Nat) : Array Value := madeCells #[.int .i64 0] (n * 1)
theorem make_run (n : Nat) (hn : n ≤ 2000) (w : World) : (Instr.makeSlice 22 (.int .i64 (n : Int)) (.int .i64 (n : Int))).run Try.prog w = .ok (.slice (some ⟨w.heap.size, 0, none⟩) n n) (w.alloc (.cells (mkI n) 3)) := by
  obtain ⟨i, hi, hz, hs, hb⟩ := info_parts infoI
  have h := run_make (P := Try.prog) w 22 3 i _ Try.underlying22 hi hz .i64 .i64 n n (by omega) (by omega) (by rw [hb]; omega) (by omega)
  rw [Int.toNat_natCast, hs] at h
  exact h
/-- The row with its first k numbers written. -/
def Filled (w : World) (g n k : Nat) : Prop := ∃ cs : Array Value, Blk w g 3 cs ∧ cs.size = n ∧ ∀ i, i < k → cs[i]? = some (.int .i64 100)
theorem Filled.slice {w : World} {g n : Nat} (h : Filled w g n n) : SliceOf encI 1 w w.heap.size (some ⟨g, 0, none⟩) (liR n) := fun _ => by
  obtain ⟨cs, hB, hs, hc⟩ := h
  refine ⟨g, 0, rfl, hB.lt, fun i x hi j v hj => ?_⟩
  obtain ⟨hi', rfl⟩ := List.getElem?_eq_some_iff.1 hi
  simp [liR] at hi'
  simp only [liR, List.getElem_replicate] at hj
  rw [Nat.zero_add, Nat.mul_one, hB.cell]
  match j, hj with
  | 0, hj => simp [encI] at hj; subst hj; exact hc i hi'
  | (m + 1), hj => simp [encI] at hj
theorem Filled.step {w : World} {g n k : Nat} {cs : Array Value} (hB : Blk w g 3 cs) (hs : cs.size = n) (hk : k < n) (hc : ∀ i, i < k → cs[i]? = some (.int .i64 100)) :
    Filled (w.setCell ⟨g, k, none⟩ (.int .i64 100)) g n (k + 1) := by
  refine ⟨_, hB.set_ _ _, by simp [hs], fun i hi => ?_⟩
  rcases Nat.lt_or_ge i k with h | h
  · rw [Array.getElem?_setIfInBounds_ne (by omega)]; exact hc i h
  · obtain rfl : i = k := by omega
    rw [Array.getElem?_setIfInBounds_self_of_lt (by omega)]

set_option maxRecDepth 100000 in
set_option maxHeartbeats 4000000 in
theorem limits_walk (n : Int) (w : World) :
    Calls Try.prog 7 #[.int .i64 n] w fun e w' => e = .returned (.bool true) ∧ Below w.heap.size w w' := by
  go_enter Try.func7, Try.ntmps7
  go_wp2_with fail
  refine (mod_any _ _ _ (by omega) (by omega)).mono ?_
  rintro e w1 ⟨rfl, rfl⟩
  generalize hr : n % 3 = r
  have h0 : 0 ≤ r := by omega
  have h1 : r < 3 := by omega
  obtain ⟨j, rfl⟩ := Int.eq_ofNat_of_zero_le h0
  clear hr
  obtain ⟨m, hm⟩ : ∃ m : Nat, m = 1023 + j := ⟨_, rfl⟩
  have hm1 : 1023 ≤ m := by omega
  have hm2 : m ≤ 1025 := by omega
  have hmk := make_run m (by omega)
  have ec : (1023 : Int) + (j : Int) = (m : Int) := by omega
  have EC := Lib.hid ec
  clear ec hm
  go_upto_region 2 with fail
  rw [EC.out]
  clear EC h0 h1
  go_wp2_with fail
  have hF0 : Filled (w.alloc (.cells (mkI m) 3)) w.heap.size m 0 := ⟨_, Blk.new _ _ _, by simp [mkI, size_madeCells], fun i hi => absurd hi (by omega)⟩
  go_loopw [5] (fun i wr => ∃ k : Nat, k ≤ m ∧ i = .int .i64 k ∧ Filled wr w.heap.size m k ∧ Below w.heap.size w wr) (fun i _ => m - (intOf i).toNat)
  case atStart => exact ⟨0, by omega, rfl, hF0, below_new _ _⟩
  case round =>
    clear hF0
    obtain ⟨k, hk, rfl, ⟨cs, hB, hsz, hcs⟩, hbel⟩ := hrel
    have hlg := hB.lt
    by_cases hlt : k < m
    · have e0 := hB.cell k
      rw [Array.getElem?_eq_getElem (by omega)] at e0
      have f0 := hB.frozen k
      have HCS := Lib.hid hcs
      have HSZ := Lib.hid hsz
      generalize cs[k]'(by omega) = x0 at e0
      clear hcs hsz
      go_wp2_with fail
      go_roundw
      case rel => exact ⟨k + 1, by omega, by go_num, Filled.step hB HSZ.out hlt HCS.out, bel_set hbel (Nat.le_refl _) _ _⟩
      case measure => simp [intOf]; omega
    · obtain rfl : k = m := by omega
      have hF : Filled wr w.heap.size k k := ⟨cs, hB, hsz, hcs⟩
      have hSl := hF.slice
      clear hF hB hsz hcs hmk
      by_cases hj : 1024 < k
      · obtain ⟨E1, E2⟩ := li_no k hj
        have HE1 := Lib.hid E1
        have HE2 := Lib.hid E2
        clear E1 E2
        go_wp2_with fail
        refine (li_sched k k _ _ (by omega) hSl).mono ?_
        rintro e w2 ⟨v2, rfl, hown2, hb2⟩
        rw [HE1.out]
        rw [HE2.out] at hown2
        obtain ⟨A2, c2, rfl, hS2, hB2, hlc2, hcm2⟩ := hown2.form2 encI_len
        have hbel2 := bel_adv hbel hb2
        clear hown2 hS2 hB2 hb2 hSl
        go_wp2_with fail
        refine (awake_any _).mono ?_
        rintro e w3 ⟨rfl, hb3⟩
        go_wp2
        go_ret
        exact ⟨rfl, bel_adv hbel2 hb3⟩
      · obtain ⟨E1, E2⟩ := li_ok k (by omega)
        have HE1 := Lib.hid E1
        have HE2 := Lib.hid E2
        clear E1 E2
        go_wp2_with fail
        refine (li_sched k k _ _ (by omega) hSl).mono ?_
        rintro e w2 ⟨v2, rfl, hown2, hb2⟩
        rw [HE1.out]
        rw [HE2.out] at hown2
        obtain ⟨A2, c2, rfl, hS2, hB2, hlc2, hcm2⟩ := hown2.form2 encI_len
        have hbel2 := bel_adv hbel hb2
        have hl10 : (List.replicate k (10 : Int)).length = k := by simp
        rw [hl10]
        obtain ⟨b, off, rfl, hb, hc⟩ := hS2 (by intro e; rw [e] at hl10; simp at hl10; omega)
        have g0 := hc 0 10 (by rw [List.getElem?_replicate, if_pos (by omega)]) 0 _ rfl
        have g1 := hc (k - 1) 10 (by rw [List.getElem?_replicate, if_pos (by omega)]) 0 _ rfl
        simp only [Nat.add_zero, Nat.mul_one] at g0 g1
        have hkk : ((k : Int) == (k : Int)) = true := by simp
        have e1 : ((k : Int) - 1) = ((k - 1 : Nat) : Int) := by omega
        clear hown2 hS2 hB2 hb2 hSl hc hl10
        go_wp2_with fail
        refine (awake_any _).mono ?_
        rintro e w3 ⟨rfl, hb3⟩
        go_wp2
        go_ret
        exact ⟨rfl, bel_adv hbel2 hb3⟩

end Go.Proofs.Ytnbfhnhneakajaa
