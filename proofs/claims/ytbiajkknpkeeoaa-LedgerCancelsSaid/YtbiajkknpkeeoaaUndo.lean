/- Contract of payrollref35.Undo on a valid book that holds the run. Conditions: as stated. -/
import Derived.Test.YtbiajkknpkeeoaaRefBk
namespace Go.Proofs.Ytbiajkknpkeeoaa
open Go.RowKit

def back (n : Int) (x : PostT) : PostT := ⟨n, x.employee, x.period, ⟨x.line.kind, x.line.code, -x.line.amount⟩⟩
def undoL (r n : Int) (xs : List PostT) : List PostT := (xs.filter fun x => decide (x.run = r)).map (back n)
theorem undo_take (xs : List PostT) (r n : Int) (k : Nat) (h : k < xs.length) : undoL r n (xs.take (k + 1)) = undoL r n (xs.take k) ++ (if xs[k].run = r then [back n xs[k]] else []) := by
  rw [undoL, List.take_succ_eq_append_getElem h, List.filter_append, List.map_append]
  congr 1
  by_cases h1 : xs[k].run = r <;> simp [h1]

set_option maxRecDepth 100000 in
set_option maxHeartbeats 4000000 in
theorem undo_any (A : Option Addr) (cap : Nat) (xs : List PostT) (r n : Int) (w : World) (h : SliceOf encP 6 w w.heap.size A xs) (hl : xs.length ≤ 1000) (hz : ∀ x ∈ xs, x.line.code.size ≤ maxLen) (hbk : bookB xs = true) (hn1 : 1 ≤ n) (hn2 : n ≤ 256)
    (hne : 0 < xs.length) (hlast : (xs[xs.length - 1]'(by omega)).run < n) (hsome : undoL r n xs ≠ []) :
    Calls Try.prog 26 #[.slice A xs.length cap, .int .i64 r, .int .i64 n] w fun e w' => ∃ v, e = .returned (.tuple #[v, .int .i64 0]) ∧ Own encP 6 28 w' w.heap.size v (undoL r n xs) ∧ Below w.heap.size w w' := by
  have HVP := Lib.hid ((bookB_iff xs).1 hbk).2.2
  go_enter Try.func26, Try.ntmps26
  go_wp2_with fail
  refine (book35_any A cap xs _ h (by omega) hz).mono ?_
  rintro e w1 ⟨rfl, hb1⟩
  rw [hbk]
  clear hbk hz
  have h1 := h.adv hb1
  have hs1 := hb1.size
  go_wp2_with fail
  go_loopw [8, 9] (fun v i wr => ∃ k : Nat, k ≤ xs.length ∧ i = .int .i64 k ∧ Own encP 6 28 wr w1.heap.size v (undoL r n (xs.take k)) ∧ Below w1.heap.size w1 wr) (fun _ i _ => xs.length - (intOf i).toNat)
  case atStart => exact ⟨0, by omega, rfl, Own.nil_ _ _, Below.refl _ _⟩
  case round =>
    obtain ⟨k, hk, rfl, hown, hbel⟩ := hrel
    have hbs := hbel.size
    by_cases hlt : k < xs.length
    · obtain ⟨b, off, rfl, hb, hc⟩ := (h1.adv hbel).at_ hlt
      have c0 := hc 0 _ rfl
      have c1 := hc 1 _ rfl
      have c2 := hc 2 _ rfl
      have c3 := hc 3 _ rfl
      have c4 := hc 4 _ rfl
      have c5 := hc 5 _ rfl
      simp only [Nat.add_zero] at c0
      clear hc
      have HT := Lib.hid (undo_take xs r n k hlt)
      obtain ⟨a1, a2⟩ := validP_amt (HVP.out _ (List.getElem_mem hlt))
      have hfl : (undoL r n (xs.take k)).length ≤ 1000 := by rw [undoL, List.length_map]; exact Nat.le_trans (List.length_filter_le _ _) (by simp; omega)
      by_cases hr : xs[k].run = r
      · have hr' : (xs[k].run == r) = true := by simpa using hr
        have hr7 := fun g hg => (hown.block_lt (g := g) hg).1
        have HTT : Hid (undoL r n (xs.take (k + 1)) = undoL r n (xs.take k) ++ [back n xs[k]]) := by rw [Hid, HT.out, if_pos hr]
        clear HT hr
        have hownA := hown.alloc (.cells #[.int .i64 n, .int .i64 xs[k].employee, .int .i64 xs[k].period, .int .i64 xs[k].line.kind, .string xs[k].line.code, .int .i64 (-xs[k].line.amount)] 28)
        have hbelA := bel_alloc hbel (.cells #[.int .i64 n, .int .i64 xs[k].employee, .int .i64 xs[k].period, .int .i64 xs[k].line.kind, .string xs[k].line.code, .int .i64 (-xs[k].line.amount)] 28)
        have hbsA : w1.heap.size ≤ (wr.alloc (.cells #[.int .i64 n, .int .i64 xs[k].employee, .int .i64 xs[k].period, .int .i64 xs[k].line.kind, .string xs[k].line.code, .int .i64 (-xs[k].line.amount)] 28)).heap.size := by simp; omega
        have hr8 := fun g hg => (hownA.block_lt (g := g) hg).1
        clear hown hbel
        go_wp2_with (at_builtin; (refine wpList_append_one _ _ 23 (back n xs[k]) _ 56 _ infoP Try.underlying23 hownA encP_len (by omega) rfl (encP_one _) (by omega) (by omega) hbsA (by rfl) (by rfl) (by rfl) (by rfl) (by simp [back]) (by rfl) ?_); intro v2 w6 hown6 hg6)
        go_roundw
        case rel =>
          have hf : ∃ k' : Nat, k' ≤ xs.length ∧ Value.int .i64 ((k : Int) + 1) = .int .i64 k' ∧ Own encP 6 28 w6 w1.heap.size v2 (undoL r n (xs.take k')) ∧ Below w1.heap.size w1 w6 :=
            ⟨k + 1, by omega, by go_num, by rw [HTT.out]; exact hown6, bel_only hbelA hg6 hr8⟩
          first | exact hf | ((repeat apply Exists.intro); exact ⟨hf, rfl⟩)
        case measure => simp [intOf]; omega
      · have hr' : (xs[k].run == r) = false := by simpa using hr
        have HTT : Hid (undoL r n (xs.take (k + 1)) = undoL r n (xs.take k)) := by rw [Hid, HT.out, if_neg hr, List.append_nil]
        clear HT hr
        go_wp2_with fail
        go_roundw
        case rel =>
          have hf : ∃ k' : Nat, k' ≤ xs.length ∧ Value.int .i64 ((k : Int) + 1) = .int .i64 k' ∧ Own encP 6 28 wr w1.heap.size u8 (undoL r n (xs.take k')) ∧ Below w1.heap.size w1 wr :=
            ⟨k + 1, by omega, by go_num, by rw [HTT.out]; exact hown, hbel⟩
          first | exact hf | ((repeat apply Exists.intro); exact ⟨hf, rfl⟩)
        case measure => simp [intOf]; omega
    · rw [List.take_of_length_le (by omega)] at hown
      obtain rfl : k = xs.length := by omega
      have hd0 : decide ((xs.length : Int) < (xs.length : Int)) = false := by simp
      have hd1 : decide (xs.length < xs.length) = false := by simp
      obtain ⟨A5, c5, rfl, hS5, hB5, hlc5, hcm5⟩ := hown.form2 encP_len
      have hu0 : (((undoL r n xs).length : Int) == 0) = false := by
        have : (undoL r n xs).length ≠ 0 := fun e => hsome (List.eq_nil_of_length_eq_zero e)
        simp; omega
      have hlk : xs.length - 1 < xs.length := by omega
      obtain ⟨b, off, rfl, hb, hc⟩ := (h1.adv hbel).at_ hlk
      have c0 := hc 0 _ rfl
      simp only [Nat.add_zero] at c0
      have ei : ((xs.length : Int) - 1) = ((xs.length - 1 : Nat) : Int) := by omega
      have hg : decide (n ≤ (xs[xs.length - 1]'hlk).run) = false := by simp; omega
      have HOW := Lib.hid (hown.weaken hs1)
      have HBB := Lib.hid (bel_adv hb1 hbel)
      clear hc hown hS5 hB5 hsome hbel
      go_wp2_with fail
      go_ret2
      exact ⟨_, rfl, HOW.out, HBB.out⟩

end Go.Proofs.Ytbiajkknpkeeoaa
