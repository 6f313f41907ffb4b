/- Contracts of payrolllaw44.wages and of paygen's Book. Conditions: at most 500000 numbers have been drawn. -/
import Derived.Test.YtbiajkknpkeeoaaGenL
import Derived.Test.YtbiajkknpkeeoaaData2
namespace Go.Proofs.Ytbiajkknpkeeoaa
open Go.RowKit

def cellsC8 : Array Value := #[.string ⟨#[97]⟩, .string ⟨#[97, 98, 99, 100, 101, 102, 103, 104, 105, 106, 107, 108, 109, 110, 111, 112, 113, 114, 115, 116, 117, 118, 119, 120]⟩, .string ⟨#[98]⟩, .string ⟨#[98, 111, 110, 117, 115]⟩, .string ⟨#[99, 97, 114]⟩, .string ⟨#[110, 105, 103, 104, 116]⟩, .string ⟨#[115, 97, 108, 97, 114, 121]⟩, .string ⟨#[120, 49]⟩]
def listC8 : List ByteArray := [⟨#[97]⟩, ⟨#[97, 98, 99, 100, 101, 102, 103, 104, 105, 106, 107, 108, 109, 110, 111, 112, 113, 114, 115, 116, 117, 118, 119, 120]⟩, ⟨#[98]⟩, ⟨#[98, 111, 110, 117, 115]⟩, ⟨#[99, 97, 114]⟩, ⟨#[110, 105, 103, 104, 116]⟩, ⟨#[115, 97, 108, 97, 114, 121]⟩, ⟨#[120, 49]⟩]
def atC8 (k : Nat) : ByteArray := listC8.getD k ⟨#[]⟩
def wageC8 (k : Nat) : WageT := ⟨atC8 k, 1, false, false, false, 4000 + (k : Int) / 2⟩
def wages8 : List WageT := (List.range 8).map wageC8
theorem wages8_take (k : Nat) (h : k < 8) : wages8.take (k + 1) = wages8.take k ++ [wageC8 k] := by
  have hl : k < wages8.length := by simpa [wages8] using h
  rw [List.take_succ_eq_append_getElem hl]
  simp [wages8]
theorem cellsC8_at (k : Nat) (h : k < 8) : cellsC8[k]? = some (.string (atC8 k)) := by
  match k, h with
  | 0, _ => rfl
  | 1, _ => rfl
  | 2, _ => rfl
  | 3, _ => rfl
  | 4, _ => rfl
  | 5, _ => rfl
  | 6, _ => rfl
  | 7, _ => rfl
theorem wages8_len : wages8.length = 8 := by simp [wages8]
theorem wages8_size : ∀ x ∈ wages8, x.code.size ≤ maxLen := by
  have h : ∀ x ∈ wages8, x.code.size ≤ 24 := by decide +kernel
  exact fun x hx => Nat.le_trans (h x hx) (by unfold maxLen; omega)

set_option maxRecDepth 100000 in
set_option maxHeartbeats 2000000 in
theorem wages44_any (w : World) : Calls Try.prog 13 #[] w fun e w' => ∃ A c, e = .returned (.slice A wages8.length c) ∧ SliceOf encW 6 w' w'.heap.size A wages8 ∧ Below w.heap.size w w' := by
  go_enter Try.func13, Try.ntmps13
  go_wp2_with fail
  rw [show Obj.cells #[.string ⟨#[97]⟩, .string ⟨#[97, 98, 99, 100, 101, 102, 103, 104, 105, 106, 107, 108, 109, 110, 111, 112, 113, 114, 115, 116, 117, 118, 119, 120]⟩, .string ⟨#[98]⟩, .string ⟨#[98, 111, 110, 117, 115]⟩, .string ⟨#[99, 97, 114]⟩, .string ⟨#[110, 105, 103, 104, 116]⟩, .string ⟨#[115, 97, 108, 97, 114, 121]⟩, .string ⟨#[120, 49]⟩] 9 = Obj.cells cellsC8 9 from rfl]
  go_loopw [1, 6] (fun v i wr => ∃ k : Nat, k ≤ 8 ∧ i = .int .i64 k ∧ Own encW 6 68 wr (w.heap.size + 1) v (wages8.take k) ∧ Blk wr w.heap.size 9 cellsC8 ∧ Below w.heap.size w wr) (fun _ i _ => 8 - (intOf i).toNat)
  case atStart => exact ⟨0, by omega, rfl, Own.nil_ _ _, Blk.new _ _ _, below_new _ _⟩
  case round =>
    obtain ⟨k, hk, rfl, hown, hblk, hbel⟩ := hrel
    by_cases hlt : k < 8
    · have c0 := (hblk.cell k).trans (cellsC8_at k hlt)
      have hlk : (wages8.take k).length ≤ 8 := by simp [wages8]; omega
      have hsz := hblk.lt
      have HT := Lib.hid (wages8_take k hlt)
      have hr7 := fun g hg => (hown.block_lt (g := g) hg).1
      go_wp2_with (at_builtin; (refine wpList_append_one _ _ 36 (⟨atC8 k, 1, false, false, false, 4000 + (k : Int) / 2⟩ : WageT) _ 40 _ infoW Try.underlying36 hown encW_len (by omega) rfl (encW_one _) (by omega) (by omega) (by omega) (by rfl) (by rfl) (by rfl) (by rfl) (by simp) (by rfl) ?_); intro v2 w6 hown6 hg6)
      go_roundw
      case rel =>
        have hf : ∃ k' : Nat, k' ≤ 8 ∧ Value.int .i64 ((k : Int) + 1) = .int .i64 k' ∧ Own encW 6 68 w6 (w.heap.size + 1) v2 (wages8.take k') ∧ Blk w6 w.heap.size 9 cellsC8 ∧ Below w.heap.size w w6 :=
          ⟨k + 1, by omega, by go_num, by rw [HT.out]; exact hown6, hblk.grown hg6 (fun e => by have := hr7 _ e.symm; omega), bel_only hbel hg6 (fun q e => by have := hr7 q e; omega)⟩
        first | exact hf | ((repeat apply Exists.intro); exact ⟨hf, rfl⟩)
      case measure => simp [intOf]; omega
    · obtain rfl : k = 8 := by omega
      rw [show wages8.take 8 = wages8 from rfl] at hown
      obtain ⟨A5, c5, rfl, hS5, hB5, hlc5, hcm5⟩ := hown.form2 encW_len
      go_wp2
      go_ret
      exact ⟨A5, c5, rfl, hS5, hbel⟩

set_option maxRecDepth 100000 in
set_option maxHeartbeats 4000000 in
theorem bookG_any (b M n : Nat) (w : World) (hM : M ≤ 500000) (hn : n ≤ 1000) (hd : DeckIn w b M) :
    Calls Try.prog 11 #[.pointer (some ⟨b, 0, none⟩), .int .i64 n] w fun e w' => ∃ v xs, e = .returned v ∧ xs.length ≤ 4 * n ∧ (∀ x ∈ xs, x.line.code.size ≤ 24) ∧ Own encP 6 28 w' w.heap.size v xs ∧ DeckIn w' b (M + 1 + 30 * n) ∧ w.grownBy w' (some b) := by
  have hlt := hd.lt
  go_enter Try.func11, Try.ntmps11
  go_wp2_with fail
  refine (next_any b M _ _ (by omega) (by omega) (by omega) hd).mono ?_
  rintro e w0 ⟨r0, rfl, ha0, hb0, hd0, hg0⟩
  obtain ⟨k0, rfl⟩ := Int.eq_ofNat_of_zero_le ha0
  go_wp2_with fail
  go_loopw [5, 6, 7] (fun v s i wr => ∃ (k : Nat) (r : Int) (xs : List PostT), k ≤ n ∧ i = .int .i64 k ∧ s = .int .i64 r ∧ 0 ≤ r ∧ r + 2 * k ≤ 2 * n ∧ xs.length + 4 * k ≤ 4 * n ∧ Hid (∀ x ∈ xs, x.line.code.size ≤ 24) ∧ Own encP 6 28 wr w.heap.size v xs ∧ DeckIn wr b (M + 1 + 30 * (n - k)) ∧ w.grownBy wr (some b)) (fun _ _ i _ => (intOf i).toNat)
  case atStart => exact ⟨k0, 0, [], by omega, rfl, rfl, by omega, by omega, by simp; omega, (fun x hx => by cases hx), Own.nil_ _ _, hd0.mono (by omega), hg0⟩
  case round =>
    obtain ⟨k, r, xs, hk, rfl, rfl, hr0, hr1, hlen, hall, hown, hdk, hg⟩ := hrel
    by_cases hk0 : 0 < k
    · go_wp2_with fail
      refine (next_any b (M + 1 + 30 * (n - k)) _ _ (by omega) (by omega) (by omega) hdk).mono ?_
      rintro e w1 ⟨r1, rfl, ha1, hb1, hd1, hg1⟩
      go_wp2_with fail
      refine (next_any b (M + 1 + 30 * (n - k) + 1) _ _ (by omega) (by omega) (by omega) hd1).mono ?_
      rintro e w2 ⟨r2, rfl, ha2, hb2, hd2, hg2⟩
      obtain ⟨j0, rfl⟩ := Int.eq_ofNat_of_zero_le ha2
      have hown2 := (hown.kept hg1 (by intro g e; injection e; omega)).kept hg2 (by intro g e; injection e; omega)
      have hgg := only_trans (only_trans hg hg1) hg2
      clear hown hdk hd1 hg hg1 hg2
      go_wp2_with fail
      go_loopw [5, 8] (fun v i wr => ∃ (j : Nat) (ys : List PostT), j ≤ 4 ∧ i = .int .i64 j ∧ ys.length + j ≤ xs.length + 4 ∧ Hid (∀ x ∈ ys, x.line.code.size ≤ 24) ∧ Own encP 6 28 wr w.heap.size v ys ∧ DeckIn wr b (M + 1 + 30 * (n - k) + 2 + 7 * (4 - j)) ∧ w.grownBy wr (some b)) (fun _ i _ => (intOf i).toNat)
      case atStart => exact ⟨j0, xs, by omega, rfl, by omega, hall, hown2, hd2.mono (by omega), hgg⟩
      case round =>
        clear hown2 hgg hd2
        obtain ⟨j, ys, hj, rfl, hlenj, hallj, hownj, hdj, hgj⟩ := hrel
        by_cases hj0 : 0 < j
        · go_wp2_with fail
          refine (next_any b (M + 1 + 30 * (n - k) + 2 + 7 * (4 - j)) _ _ (by omega) (by omega) (by omega) hdj).mono ?_
          rintro e w3 ⟨r3, rfl, ha3, hb3, hd3, hg3⟩
          go_wp2_with fail
          refine (next_any b (M + 1 + 30 * (n - k) + 2 + 7 * (4 - j) + 1) _ _ (by omega) (by omega) (by omega) hd3).mono ?_
          rintro e w4 ⟨r4, rfl, ha4, hb4, hd4, hg4⟩
          go_wp2_with fail
          refine (line_any b (M + 1 + 30 * (n - k) + 2 + 7 * (4 - j) + 1 + 1) _ (by omega) hd4).mono ?_
          rintro e w5 ⟨x, rfl, hx, hd5, hg5⟩
          have hG := only_trans (only_trans hg3 hg4) hg5
          have hown5 := hownj.kept hG (by intro g e; injection e; omega)
          have hs5 : w.heap.size ≤ w5.heap.size := Nat.le_trans hgj.size hG.size
          have hr7 := fun q hq => (hown5.block_lt (g := q) hq).1
          have hgg := only_trans hgj hG
          have HX := Lib.hid hx.code
          clear hdj hownj hgj hg3 hg4 hg5 hd3 hd4 hx hG
          go_wp2_with (at_builtin; (refine wpList_append_one _ _ 23 (⟨r + (1 + r1), 1 + r3, r4, x⟩ : PostT) _ 56 _ infoP Try.underlying23 hown5 encP_len (by omega) rfl (encP_one _) (by omega) (by omega) hs5 (by rfl) (by rfl) (by rfl) (by rfl) (by simp) (by rfl) ?_); intro v2 w6 hown6 hg6)
          go_roundw
          case rel =>
            have hfin : ∃ (j' : Nat) (ys' : List PostT), j' ≤ 4 ∧ Value.int .i64 ((j : Int) - 1) = .int .i64 j' ∧ ys'.length + j' ≤ xs.length + 4 ∧ Hid (∀ x ∈ ys', x.line.code.size ≤ 24) ∧ Own encP 6 28 w6 w.heap.size v2 ys' ∧ DeckIn w6 b (M + 1 + 30 * (n - k) + 2 + 7 * (4 - j')) ∧ w.grownBy w6 (some b) := by
              refine ⟨j - 1, ys ++ [⟨r + (1 + r1), 1 + r3, r4, x⟩], by omega, by go_num, by simp; omega, fun y hy => ?_, hown6, (hd5.grown hg6 (fun q e => by have := hr7 q e; omega)).mono (by omega), only_then hgg hg6 (fun q e => .inl (hr7 q e))⟩
              rcases List.mem_append.1 hy with hy | hy
              · exact hallj.out y hy
              · simp at hy; subst hy; exact HX.out
            first | exact hfin | ((repeat apply Exists.intro); exact ⟨hfin, rfl⟩)
          case measure => simp [intOf]; omega
        · obtain rfl : j = 0 := by omega
          go_wp2_with fail
          go_roundw
          case rel =>
            have hfin : ∃ (k' : Nat) (r' : Int) (xs' : List PostT), k' ≤ n ∧ Value.int .i64 ((k : Int) - 1) = .int .i64 k' ∧ Value.int .i64 (r + (1 + r1)) = .int .i64 r' ∧ 0 ≤ r' ∧ r' + 2 * k' ≤ 2 * n ∧ xs'.length + 4 * k' ≤ 4 * n ∧ Hid (∀ x ∈ xs', x.line.code.size ≤ 24) ∧ Own encP 6 28 wr w.heap.size u5 xs' ∧ DeckIn wr b (M + 1 + 30 * (n - k')) ∧ w.grownBy wr (some b) :=
              ⟨k - 1, r + (1 + r1), ys, by omega, by go_num, rfl, by omega, by omega, by omega, hallj, hownj, hdj.mono (by omega), hgj⟩
            first | exact hfin | ((repeat apply Exists.intro); exact ⟨hfin, rfl⟩)
          case measure => simp [intOf]; omega
    · go_wp2_with fail
      go_ret
      exact ⟨_, xs, rfl, by omega, hall.out, hown, hdk.mono (by omega), hg⟩

end Go.Proofs.Ytbiajkknpkeeoaa
