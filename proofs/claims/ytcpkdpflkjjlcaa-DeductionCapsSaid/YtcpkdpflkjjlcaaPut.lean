/- Contract of payrollref26.Put: the plain function 'put'. Conditions: amounts far from the ends of int. -/
import Derived.Test.YtcpkdpflkjjlcaaElem
namespace Go.Proofs.Ytcpkdpflkjjlcaa
open Go.RowKit

def lessE (x y : Elem) : Bool := Op.bytesLess x.code.toList y.code.toList
def put (xs : List Elem) (e : Elem) : List Elem :=
  match xs with
  | [] => [e]
  | x :: r => if lessE x e then x :: put r e else if x.code.toList == e.code.toList then ⟨e.code, e.amount + x.amount⟩ :: r else e :: x :: r

theorem put_skip (e : Elem) : ∀ (xs : List Elem) (k : Nat), k ≤ xs.length → (∀ j, (h : j < xs.length) → j < k → lessE xs[j] e = true) → put xs e = xs.take k ++ put (xs.drop k) e := by
  intro xs
  induction xs with
  | nil => intro k hk _; simp
  | cons x r ih =>
    intro k hk h
    cases k with
    | zero => simp
    | succ k =>
      have h0 := h 0 (by simp) (by omega)
      simp at h0
      rw [put, if_pos h0, List.take_succ_cons, List.drop_succ_cons, List.cons_append]
      rw [← ih k (by simp at hk; omega) (fun j hj hjk => by have := h (j + 1) (by simp; omega) (by omega); simpa using this)]
theorem put_eq {xs : List Elem} {e : Elem} {k : Nat} (hk : k < xs.length) (h : ∀ j, (h : j < xs.length) → j < k → lessE xs[j] e = true) (h1 : lessE xs[k] e = false) (h2 : (xs[k].code.toList == e.code.toList) = true) :
    put xs e = xs.take k ++ [⟨e.code, e.amount + xs[k].amount⟩] ++ xs.drop (k + 1) := by
  rw [put_skip e xs k (by omega) h, List.drop_eq_getElem_cons hk, put, h1, h2]
  simp
theorem put_ne {xs : List Elem} {e : Elem} {k : Nat} (hk : k < xs.length) (h : ∀ j, (h : j < xs.length) → j < k → lessE xs[j] e = true) (h1 : lessE xs[k] e = false) (h2 : (xs[k].code.toList == e.code.toList) = false) :
    put xs e = xs.take k ++ [e] ++ xs.drop k := by
  rw [put_skip e xs k (by omega) h, List.drop_eq_getElem_cons hk, put, h1, h2]
  simp
theorem put_end {xs : List Elem} {e : Elem} (h : ∀ j, (h : j < xs.length) → lessE xs[j] e = true) : put xs e = xs.take xs.length ++ [e] ++ xs.drop xs.length := by
  rw [put_skip e xs xs.length (Nat.le_refl _) (fun j hj _ => h j hj)]
  simp [put]

set_option maxHeartbeats 2000000 in
theorem put_any (A : Option Addr) (cap : Nat) (xs : List Elem) (e : Elem) (w : World) (h : SliceOf encE 2 w w.heap.size A xs) (hc : xs.length ≤ cap) (hcm : cap ≤ maxLen) (hl : xs.length ≤ 1000000)
    (hx : ∀ x ∈ xs, -1000000000000000 ≤ x.amount ∧ x.amount ≤ 1000000000000000) (he1 : -1000000000000000 ≤ e.amount) (he2 : e.amount ≤ 1000000000000000) :
    Calls Try.prog 49 #[.slice A xs.length cap, .agg #[.string e.code, .int .i64 e.amount]] w fun r w' => ∃ v, r = .returned v ∧ Own encE 2 60 w' w.heap.size v (put xs e) ∧ Below w.heap.size w w' := by
  have HX := Lib.hid hx; clear hx
  have hcm' : cap ≤ 9223372036854775807 := hcm
  clear hcm
  go_enter Try.func49, Try.ntmps49
  go_wp2
  go_loopw [5, 6] (fun v i wr => ∃ k : Nat, k ≤ xs.length ∧ i = .int .i64 k ∧ Hid (∀ j, (hj : j < xs.length) → j < k → lessE xs[j] e = true) ∧ Own encE 2 60 wr (w.heap.size + 1) v (xs.take k) ∧ Blk wr w.heap.size 60 #[.string e.code, .int .i64 e.amount] ∧ Below w.heap.size w wr) (fun _ i _ => xs.length - (intOf i).toNat)
  case atStart => exact ⟨0, by omega, rfl, fun j _ hj => absurd hj (by omega), by simpa using Own.nil_ _ _, Blk.new _ _ _, (Below.refl _ _).alloc (Nat.le_refl _) _⟩
  case round =>
    obtain ⟨k, hk, rfl, hall, hown, hblk, hbel⟩ := hrel
    have e0 := hblk.cell 0
    have e1 := hblk.cell 1
    have f1 := hblk.frozen 1
    have hsz := hblk.lt
    simp only [List.getElem?_toArray, List.getElem?_cons_zero, List.getElem?_cons_succ] at e0 e1
    by_cases hlt : k < xs.length
    · obtain ⟨b, off, hA, hb, hcell⟩ := (h.below hbel).at_ hlt
      have c0 := hcell 0 _ rfl
      have c1 := hcell 1 _ rfl
      simp only [Nat.add_zero] at c0
      clear hcell
      by_cases hls : Op.bytesLess xs[k].code.toList e.code.toList = true
      · subst hA
        have HLS := Lib.hid hls
        go_wp2
        go_quiet (fail)
        go_wp2_with (at_builtin; (refine wpList_append_one _ _ 23 ⟨xs[k].code, xs[k].amount⟩ _ 24 _ infoE Try.underlying23 (hown.drewN nq) encE_len (by omega) rfl (encE_one _) (by simp; omega) (by omega) (by simp; omega) (by rfl) (by rfl) (by rfl) (by rfl) (by simp) (by rfl) ?_); intro v2 w6 hown6 hg6)
        go_roundw
        case rel =>
          have hr := fun g hg => (hown.block_lt (g := g) hg).1
          refine ⟨k + 1, by omega, by go_num, fun j hj hjk => ?_, ?_, (hblk.drewN nq).grown hg6 (fun e => by have := hr _ e.symm; omega), (below_drewN hbel nq).grown hg6 (by simp; omega) (fun g hg => by have := hr g hg; omega)⟩
          · rcases Nat.lt_or_ge j k with h1 | h1
            · exact hall.out j hj h1
            · obtain rfl : j = k := by omega
              exact HLS.out
          · rw [List.take_succ_eq_append_getElem hlt]
            exact hown6
        case measure => simp [intOf]; omega
      · have hls' : Op.bytesLess xs[k].code.toList e.code.toList = false := by simpa using hls
        clear hls
        by_cases heq : (xs[k].code.toList == e.code.toList) = true
        · subst hA
          have HP := Lib.hid (put_eq hlt hall.out hls' heq)
          have hxk := HX.out _ (List.getElem_mem hlt)
          obtain ⟨hx1, hx2⟩ := hxk
          go_wp2
          go_quiet (fail)
          go_wp2
          go_quiet (fail)
          go_wp2
          go_region
          generalize hW : World.setCell (World.drewN wr _) _ _ = W
          have hBW : Blk W w.heap.size 60 #[.string e.code, .int .i64 (e.amount + xs[k].amount)] := by
            rw [← hW]; simpa using (hblk.drewN _).set_ 1 (.int .i64 (e.amount + xs[k].amount))
          have hownW : Own encE 2 60 W (w.heap.size + 1) u5 (xs.take k) := by
            rw [← hW]; exact (hown.drewN _).setCell (p := ⟨w.heap.size, 1, none⟩) (fun g hg => by have := (hown.block_lt hg).1; show g ≠ w.heap.size; omega) _
          have hbelW : Below w.heap.size w W := by rw [← hW]; exact below_put (below_drewN hbel _) (Nat.le_refl _) 1 _
          clear hW
          have hsW := hBW.lt
          have a0 := hBW.cell 0
          have a1 := hBW.cell 1
          simp only [List.getElem?_toArray, List.getElem?_cons_zero, List.getElem?_cons_succ] at a0 a1
          have hr := fun g hg => (hownW.block_lt (g := g) hg).1
          have HS := Lib.hid h
          have hk1 : ((k : Int) + 1) ≤ (cap : Int) := by omega
          clear c0 c1 e0 e1 f1 hblk hown hbel h
          go_upto_region 10 with (at_builtin; (refine wpList_append_one _ _ 23 ⟨e.code, e.amount + xs[k].amount⟩ _ 24 _ infoE Try.underlying23 hownW encE_len (by omega) rfl (encE_one _) (by simp; omega) (by omega) (by omega) (by rfl) (by rfl) (by rfl) (by rfl) (by simp) (by rfl) ?_); intro v2 w6 hown6 hg6)
          have hbelW6 : Below w.heap.size w w6 := hbelW.grown hg6 (by omega) (fun g hg => by have := hr g hg; omega)
          have hs6 : w.heap.size + 1 ≤ w6.heap.size := by have := hg6.size; omega
          have hr6 := fun g hg => (hown6.block_lt (g := g) hg).1
          rcases Nat.lt_or_ge (k + 1) cap with hcap | hcap
          · have hcut := (HS.out.below hbelW6).cut (i := k + 1) (cap := cap) (by omega) (by omega)
            rw [if_neg (by omega)] at hcut
            simp only [Option.map_some, Addr.add, show ¬ (k + 1) * 2 = 0 by omega, if_false] at hcut
            go_wp2_with (at_builtin; (refine wpList_append_list (ys := xs.drop (k + 1)) _ _ 23 _ 24 _ infoE Try.underlying23 hown6 hcut encE_len (by omega) rfl encE_one (by simp; omega) (by omega) hs6 (by rfl) (by rfl) (by rfl) (by rfl) (by simp) ?_); intro v3 w7 hown7 hg7)
            go_ret
            refine ⟨v3, rfl, ?_, hbelW6.grown hg7 (by omega) (fun g hg => by have := hr6 g hg; omega)⟩
            rw [HP.out]
            exact hown7.weaken (by omega)
          · have hnil : xs.drop (k + 1) = [] := List.drop_eq_nil_of_le (by omega)
            have HN := Lib.hid hnil
            clear hnil
            obtain rfl : cap = k + 1 := by omega
            go_wp2_with (at_builtin; (refine wpList_append_list (B := 0) (ys := []) _ _ 23 _ 24 _ infoE Try.underlying23 hown6 SliceOf.nil_ encE_len (by omega) rfl encE_one (by simp <;> omega) (by omega) hs6 (by rfl) (by rfl) (by rfl) (by rfl) (by simp <;> omega) ?_); intro v3 w7 hown7 hg7)
            go_ret
            refine ⟨v3, rfl, ?_, hbelW6.grown hg7 (by omega) (fun g hg => by have := hr6 g hg; omega)⟩
            rw [HP.out, HN.out]
            exact hown7.weaken (by omega)
        · have heq' : (xs[k].code.toList == e.code.toList) = false := by simpa using heq
          clear heq
          subst hA
          have HP := Lib.hid (put_ne hlt hall.out hls' heq')
          go_wp2
          go_quiet (fail)
          go_wp2
          go_quiet (fail)
          go_upto_region 10 with (at_builtin; (refine wpList_append_one _ _ 23 e _ 24 _ infoE Try.underlying23 (hown.drewN _) encE_len (by omega) rfl (encE_one _) (by simp; omega) (by omega) (by simp; omega) (by rfl) (by rfl) (by rfl) (by rfl) (by simp) (by rfl) ?_); intro v2 w6 hown6 hg6)
          have hr := fun g hg => (hown.block_lt (g := g) hg).1
          have hs6 : w.heap.size + 1 ≤ w6.heap.size := by have := hg6.size; simp at this; omega
          have hbelW6 : Below w.heap.size w w6 := (below_drewN hbel _).grown hg6 (by simp; omega) (fun g hg => by have := hr g hg; omega)
          have hr6 := fun g hg => (hown6.block_lt (g := g) hg).1
          have hcut := (h.below hbelW6).cut (i := k) (cap := cap) (by omega) (by omega)
          rw [if_neg (by omega)] at hcut
          have hadd : (⟨b, off, none⟩ : Addr).add (k * 2) = ⟨b, off + k * 2, none⟩ := by unfold Addr.add; split <;> simp_all
          simp only [Option.map_some, hadd] at hcut
          have hkc : ¬ cap = k := by omega
          clear c0 c1 e0 e1 f1 hblk hown hbel h hadd
          go_wp2_with (at_builtin; (refine wpList_append_list (ys := xs.drop k) _ _ 23 _ 24 _ infoE Try.underlying23 hown6 hcut encE_len (by omega) rfl encE_one (by simp; omega) (by omega) hs6 (by rfl) (by rfl) (by rfl) (by rfl) (by simp) ?_); intro v3 w7 hown7 hg7)
          go_ret
          refine ⟨v3, rfl, ?_, hbelW6.grown hg7 (by omega) (fun g hg => by have := hr6 g hg; omega)⟩
          rw [HP.out]
          exact hown7.weaken (by omega)
    · have HP := Lib.hid (put_end (xs := xs) (e := e) (fun j hj => hall.out j hj (by omega)))
      obtain rfl : k = xs.length := by omega
      have hg0 : decide ((xs.length : Int) < (xs.length : Int)) = false := by simp
      have hg1 : decide (xs.length < xs.length) = false := by simp
      go_wp2
      go_quiet (fail)
      go_wp2
      go_quiet (fail)
      go_upto_region 10 with (at_builtin; (refine wpList_append_one _ _ 23 e _ 24 _ infoE Try.underlying23 (hown.drewN _) encE_len (by omega) rfl (encE_one _) (by simp; omega) (by omega) (by simp; omega) (by rfl) (by rfl) (by rfl) (by rfl) (by simp) (by rfl) ?_); intro v2 w6 hown6 hg6)
      have hr := fun g hg => (hown.block_lt (g := g) hg).1
      have hs6 : w.heap.size + 1 ≤ w6.heap.size := by have := hg6.size; simp at this; omega
      have hbelW6 : Below w.heap.size w w6 := (below_drewN hbel _).grown hg6 (by simp; omega) (fun g hg => by have := hr g hg; omega)
      have hr6 := fun g hg => (hown6.block_lt (g := g) hg).1
      clear e0 e1 f1 hblk hown hbel h
      go_wp2_with (at_builtin; (refine wpList_append_list (B := 0) (ys := []) _ _ 23 _ 24 _ infoE Try.underlying23 hown6 SliceOf.nil_ encE_len (by omega) rfl encE_one (by simp <;> omega) (by omega) hs6 (by rfl) (by rfl) (by rfl) (by rfl) (by simp) ?_); intro v3 w7 hown7 hg7)
      all_goals
        go_ret
        refine ⟨v3, rfl, ?_, hbelW6.grown hg7 (by omega) (fun g hg => by have := hr6 g hg; omega)⟩
        rw [HP.out]
        simpa using hown7.weaken (by omega)

end Go.Proofs.Ytcpkdpflkjjlcaa
