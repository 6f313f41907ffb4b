/- Contract of payrolllaw44.entries: what it draws is valid. Conditions: at most 800000 numbers have been drawn. -/
import Derived.Test.YtbiajkknpkeeoaaGenP
import Derived.Test.YtbiajkknpkeeoaaMergeB
namespace Go.Proofs.Ytbiajkknpkeeoaa
open Go.RowKit

set_option maxRecDepth 100000 in
set_option maxHeartbeats 2000000 in
theorem entriesG_any (b M n : Nat) (w : World) (hM : M ≤ 500000) (hn : n ≤ 1000) (hd : DeckIn w b M) :
    Calls Try.prog 21 #[.pointer (some ⟨b, 0, none⟩), .int .i64 n] w fun e w' => ∃ v xs, e = .returned v ∧ xs.length ≤ n ∧ Own encB 3 42 w' w.heap.size v xs ∧ DeckIn w' b (M + 1 + 7 * n) ∧ w.grownBy w' (some b) := by
  have hlt := hd.lt
  go_enter Try.func21, Try.ntmps21
  go_wp2_with fail
  refine (next_any b M _ _ (by omega) (by omega) (by omega) hd).mono ?_
  rintro e w0 ⟨r0, rfl, ha0, hb0, hd0, hg0⟩
  obtain ⟨k0, rfl⟩ := Int.eq_ofNat_of_zero_le ha0
  go_wp2_with fail
  go_loopw [5, 6] (fun v i wr => ∃ (k : Nat) (xs : List BookT), k ≤ n ∧ i = .int .i64 k ∧ xs.length + k ≤ n ∧ Own encB 3 42 wr w.heap.size v xs ∧ DeckIn wr b (M + 1 + 7 * (n - k)) ∧ w.grownBy wr (some b)) (fun _ i _ => (intOf i).toNat)
  case atStart => exact ⟨k0, [], by omega, rfl, by simp; omega, Own.nil_ _ _, hd0.mono (by omega), hg0⟩
  case round =>
    obtain ⟨k, xs, hk, rfl, hlen, hown, hdk, hg⟩ := hrel
    by_cases hk0 : 0 < k
    · go_wp2_with fail
      refine (next_any b (M + 1 + 7 * (n - k)) _ _ (by omega) (by omega) (by omega) hdk).mono ?_
      rintro e w1 ⟨r1, rfl, ha1, hb1, hd1, hg1⟩
      go_wp2_with fail
      refine (pick_new b (M + 1 + 7 * (n - k) + 1) w1 [100, 102, 4000, 9999] _ _ _ rfl rfl (by omega) hd1 (by simp) (by simp)).mono ?_
      rintro e w2 ⟨r2, rfl, hm2, hd2, hg2⟩
      go_wp2_with fail
      refine (small_any b (M + 1 + 7 * (n - k) + 1 + 1) _ (by omega) hd2).mono ?_
      rintro e w3 ⟨r3, rfl, ha3, hb3, hd3, hg3⟩
      go_wp2_with fail
      refine (small_any b (M + 1 + 7 * (n - k) + 1 + 1 + 2) _ (by omega) hd3).mono ?_
      rintro e w4 ⟨r4, rfl, ha4, hb4, hd4, hg4⟩
      go_wp2_with fail
      refine (pick_new b (M + 1 + 7 * (n - k) + 1 + 1 + 2 + 2) w4 [1, -1, r3, -r4, 0] _ _ _ rfl rfl (by omega) hd4 (by simp) (by simp)).mono ?_
      rintro e w5 ⟨r5, rfl, hm5, hd5, hg5⟩
      have hG := only_trans (only_trans (only_trans (only_trans hg1 hg2) hg3) hg4) hg5
      have hown1 := hown.kept hG (by intro g e; injection e; omega)
      have hs1 : w.heap.size ≤ w5.heap.size := Nat.le_trans hg.size hG.size
      have hr7 := fun q hq => (hown1.block_lt (g := q) hq).1
      have hgg := only_trans hg hG
      clear hdk hown hg hg1 hg2 hg3 hg4 hg5 hd1 hd2 hd3 hd4 hm2 hm5 hG
      go_wp2_with (at_builtin; (refine wpList_append_one _ _ 32 (⟨r1, r2, r5⟩ : BookT) _ 24 _ infoB Try.underlying32 hown1 encB_len (by omega) rfl (encB_one _) (by omega) (by omega) hs1 (by rfl) (by rfl) (by rfl) (by rfl) (by simp) (by rfl) ?_); intro v2 w6 hown6 hg6)
      go_roundw
      case rel =>
        have hfin : ∃ (k' : Nat) (xs' : List BookT), k' ≤ n ∧ Value.int .i64 ((k : Int) - 1) = .int .i64 k' ∧ xs'.length + k' ≤ n ∧ Own encB 3 42 w6 w.heap.size v2 xs' ∧ DeckIn w6 b (M + 1 + 7 * (n - k')) ∧ w.grownBy w6 (some b) := by
          exact ⟨k - 1, xs ++ [⟨r1, r2, r5⟩], by omega, by go_num, by simp; omega, hown6, (hd5.grown hg6 (fun q e => by have := hr7 q e; omega)).mono (by omega), only_then hgg hg6 (fun q e => .inl (hr7 q e))⟩
        first | exact hfin | ((repeat apply Exists.intro); exact ⟨hfin, rfl⟩)
      case measure => simp [intOf]; omega
    · go_wp2_with fail
      go_ret
      exact ⟨_, xs, rfl, by omega, hown, hdk.mono (by omega), hg⟩

end Go.Proofs.Ytbiajkknpkeeoaa
