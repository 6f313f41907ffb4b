/- Contract of payrollref35.AsOf on a valid book. Conditions: as stated. -/
import Derived.Test.YtbiajkknpkeeoaaRefBk
namespace Go.Proofs.Ytbiajkknpkeeoaa
open Go.RowKit

def upto (r : Int) (x : PostT) : Bool := decide (x.run ≤ r)
theorem upto_take (xs : List PostT) (r : Int) (k : Nat) (h : k < xs.length) : (xs.take (k + 1)).filter (upto r) = (xs.take k).filter (upto r) ++ (if xs[k].run ≤ r then [xs[k]] else []) := by
  rw [List.take_succ_eq_append_getElem h, List.filter_append]
  congr 1
  by_cases h1 : xs[k].run ≤ r <;> simp [upto, h1]
/-- On an ascending list it is a prefix. -/
theorem upto_prefix (r : Int) : ∀ (xs : List PostT), xs.Pairwise (fun a b => a.run ≤ b.run) → ∃ m, m ≤ xs.length ∧ xs.filter (upto r) = xs.take m
  | [], _ => ⟨0, by simp, rfl⟩
  | a :: l, h => by
    obtain ⟨h1, h2⟩ := List.pairwise_cons.1 h
    by_cases ha : a.run ≤ r
    · obtain ⟨m, hm, e⟩ := upto_prefix r l h2
      exact ⟨m + 1, by simp; omega, by rw [List.filter_cons, if_pos (by simp [upto, ha]), e]; rfl⟩
    · refine ⟨0, by simp, ?_⟩
      rw [List.take_zero, List.filter_eq_nil_iff]
      intro x hx
      rcases List.mem_cons.1 hx with rfl | hx
      · simp [upto]; omega
      · have := h1 x hx
        simp [upto]; omega

set_option maxRecDepth 100000 in
set_option maxHeartbeats 4000000 in
theorem asOf_any (A : Option Addr) (cap : Nat) (xs : List PostT) (r : Int) (w : World) (h : SliceOf encP 6 w w.heap.size A xs) (hl : xs.length ≤ 1000) (hz : ∀ x ∈ xs, x.line.code.size ≤ maxLen) (hbk : bookB xs = true) :
    Calls Try.prog 25 #[.slice A xs.length cap, .int .i64 r] w fun e w' => ∃ v, e = .returned v ∧ Own encP 6 28 w' w.heap.size v (xs.filter (upto r)) ∧ Below w.heap.size w w' := by
  go_enter Try.func25, Try.ntmps25
  go_wp2_with fail
  refine (book35_any A cap xs _ h (by omega) hz).mono ?_
  rintro e w1 ⟨rfl, hb1⟩
  rw [hbk]
  clear hbk hz
  have h1 := h.adv hb1
  have hs1 := hb1.size
  go_wp2_with fail
  go_loopw [5, 6] (fun v i wr => ∃ k : Nat, k ≤ xs.length ∧ i = .int .i64 k ∧ Own encP 6 28 wr w1.heap.size v ((xs.take k).filter (upto r)) ∧ Below w1.heap.size w1 wr) (fun _ i _ => xs.length - (intOf i).toNat)
  case atStart => exact ⟨0, by omega, rfl, Own.nil_ _ _, Below.refl _ _⟩
  case round =>
    obtain ⟨k, hk, rfl, hown, hbel⟩ := hrel
    have hbs := hbel.size
    by_cases hlt : k < xs.length
    · obtain ⟨b, off, rfl, hb, hc⟩ := (h1.adv hbel).at_ hlt
      have c0 := hc 0 _ rfl
      have c1 := hc 1 _ rfl
      have c2 := hc 2 _ rfl
      have c3 := hc 3 _ rfl
      have c4 := hc 4 _ rfl
      have c5 := hc 5 _ rfl
      simp only [Nat.add_zero] at c0
      clear hc
      have HT := Lib.hid (upto_take xs r k hlt)
      have hfl : ((xs.take k).filter (upto r)).length ≤ 1000 := Nat.le_trans (List.length_filter_le _ _) (by simp; omega)
      by_cases hr : xs[k].run ≤ r
      · have hr7 := fun g hg => (hown.block_lt (g := g) hg).1
        have HTT : Hid ((xs.take (k + 1)).filter (upto r) = (xs.take k).filter (upto r) ++ [xs[k]]) := by rw [Hid, HT.out, if_pos hr]
        clear HT
        go_wp2_with (at_builtin; (refine wpList_append_one _ _ 23 xs[k] _ 56 _ infoP Try.underlying23 hown encP_len (by omega) rfl (encP_one _) (by omega) (by omega) hbs (by rfl) (by rfl) (by rfl) (by rfl) (by simp) (by rfl) ?_); intro v2 w6 hown6 hg6)
        go_roundw
        case rel =>
          have hf : ∃ k' : Nat, k' ≤ xs.length ∧ Value.int .i64 ((k : Int) + 1) = .int .i64 k' ∧ Own encP 6 28 w6 w1.heap.size v2 ((xs.take k').filter (upto r)) ∧ Below w1.heap.size w1 w6 :=
            ⟨k + 1, by omega, by go_num, by rw [HTT.out]; exact hown6, bel_only hbel hg6 hr7⟩
          first | exact hf | ((repeat apply Exists.intro); exact ⟨hf, rfl⟩)
        case measure => simp [intOf]; omega
      · have HTT : Hid ((xs.take (k + 1)).filter (upto r) = (xs.take k).filter (upto r)) := by rw [Hid, HT.out, if_neg hr, List.append_nil]
        clear HT
        go_wp2_with fail
        go_roundw
        case rel =>
          have hf : ∃ k' : Nat, k' ≤ xs.length ∧ Value.int .i64 ((k : Int) + 1) = .int .i64 k' ∧ Own encP 6 28 wr w1.heap.size u5 ((xs.take k').filter (upto r)) ∧ Below w1.heap.size w1 wr :=
            ⟨k + 1, by omega, by go_num, by rw [HTT.out]; exact hown, hbel⟩
          first | exact hf | ((repeat apply Exists.intro); exact ⟨hf, rfl⟩)
        case measure => simp [intOf]; omega
    · rw [List.take_of_length_le (by omega)] at hown
      obtain rfl : k = xs.length := by omega
      have hd0 : decide ((xs.length : Int) < (xs.length : Int)) = false := by simp
      have hd1 : decide (xs.length < xs.length) = false := by simp
      go_wp2_with fail
      go_ret
      exact ⟨_, rfl, hown.weaken hs1, bel_adv hb1 hbel⟩

end Go.Proofs.Ytbiajkknpkeeoaa
