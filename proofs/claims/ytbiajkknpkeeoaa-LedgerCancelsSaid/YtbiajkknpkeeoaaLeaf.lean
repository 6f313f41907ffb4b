/- Contracts of small functions: amounts, digits, the modulus, the deck. Conditions: as stated in each theorem. -/
import Derived.Test.YtbiajkknpkeeoaaRows
import Derived.Test.YtbiajkknpkeeoaaData
import Derived.WalkKit
import Derived.WalkSpells
import Derived.WalkLawsBesides
import Derived.Deep.QuietTactic
import Derived.BigQuiet
import Derived.Lib.Hide
namespace Go.Proofs.Ytbiajkknpkeeoaa
open Go.RowKit

def amtB (n : Int) : Bool := decide (-1000000000 ≤ n ∧ n ≤ 1000000000)


theorem tmod_neg (v n : Int) (hn : 0 < n) (h : v.tmod n < 0) : v.tmod n + n = v % n := by
  have h1 := Int.tmod_add_mul_tdiv v n
  have h2 := Int.emod_add_mul_ediv v n
  have h3 := Int.emod_nonneg v (show n ≠ 0 by omega)
  have h4 := Int.emod_lt_of_pos v hn
  have h5 : -n < v.tmod n := by
    have := Int.lt_tmod_of_pos v hn
    omega
  have h6 : n * (v.tdiv n - v / n - 1) = v % n - (v.tmod n + n) := by
    rw [Int.mul_sub, Int.mul_sub]; omega
  have h7 : v.tdiv n - v / n - 1 = 0 := by
    rcases Int.lt_trichotomy (v.tdiv n - v / n - 1) 0 with h | h | h
    · have : n * (v.tdiv n - v / n - 1) ≤ n * (-1) := Int.mul_le_mul_of_nonneg_left (by omega) (by omega)
      omega
    · exact h
    · have : n * 1 ≤ n * (v.tdiv n - v / n - 1) := Int.mul_le_mul_of_nonneg_left (by omega) (by omega)
      omega
  rw [h7] at h6; omega
theorem tmod_pos (v n : Int) (hn : 0 < n) (h : 0 ≤ v.tmod n) : v.tmod n = v % n := by
  have h1 := Int.tmod_add_mul_tdiv v n
  have h2 := Int.emod_add_mul_ediv v n
  have h3 := Int.emod_nonneg v (show n ≠ 0 by omega)
  have h4 := Int.emod_lt_of_pos v hn
  have h5 := Int.tmod_lt_of_pos v hn
  have h6 : n * (v.tdiv n - v / n) = v % n - v.tmod n := by
    rw [Int.mul_sub]; omega
  have h7 : v.tdiv n - v / n = 0 := by
    rcases Int.lt_trichotomy (v.tdiv n - v / n) 0 with h | h | h
    · have : n * (v.tdiv n - v / n) ≤ n * (-1) := Int.mul_le_mul_of_nonneg_left (by omega) (by omega)
      omega
    · exact h
    · have : n * 1 ≤ n * (v.tdiv n - v / n) := Int.mul_le_mul_of_nonneg_left (by omega) (by omega)
      omega
  rw [h7] at h6; omega

set_option maxHeartbeats 400000 in
theorem mod_any (v n : Int) (w : World) (hn : 0 < n) (hn2 : n ≤ 4611686018427387904) :
    Calls Try.prog 17 #[.int .i64 v, .int .i64 n] w fun e w' => e = .returned (.int .i64 (v % n)) ∧ w = w' := by
  have a1 := tmod_neg v n hn
  have a2 := tmod_pos v n hn
  have a3 := Int.tmod_lt_of_pos v hn
  have a4 := Int.lt_tmod_of_pos v hn
  have A1 := Lib.hid a1; have A2 := Lib.hid a2; clear a1 a2
  go_enter Try.func17, Try.ntmps17
  go_wp2
  · go_ret
    rename_i h
    refine ⟨?_, rfl⟩
    show Ending.returned (.int .i64 (v.tmod n + n)) = _
    rw [A1.out h]
  · go_ret
    rename_i h
    refine ⟨?_, rfl⟩
    show Ending.returned (.int .i64 (v.tmod n)) = _
    rw [A2.out h]

/-- The deck behind a pointer: its list lies below it, and at most M numbers have been taken. -/
def DeckIn (w : World) (b M : Nat) : Prop := ∃ (A : Option Addr) (l : List Int) (c at_ : Nat),
  Blk w b 59 #[.slice A l.length c, .int .i64 at_] ∧ at_ ≤ M ∧ SliceOf encI 1 w b A l ∧ l.length ≤ 9223372036854775807 ∧ ∀ x ∈ l, I64 x

theorem DeckIn.lt {w : World} {b M : Nat} (h : DeckIn w b M) : b < w.heap.size := by
  obtain ⟨A, l, c, a, h1, _⟩ := h
  exact h1.lt
theorem DeckIn.grown {w w' : World} {b M : Nat} {row : Option Nat} (h : DeckIn w b M) (hg : w.grownBy w' row) (hr : ∀ g, row = some g → b < g) : DeckIn w' b M := by
  have hlt := h.lt
  obtain ⟨A, l, c, a, h1, h2, h3, h4, h5⟩ := h
  exact ⟨A, l, c, a, h1.grown hg (fun e => by have := hr b e.symm; omega), h2, h3.grown hg (by omega) (fun g e => by have := hr g e; omega), h4, h5⟩
theorem DeckIn.drewN {w : World} {b M : Nat} (h : DeckIn w b M) (n : Nat) : DeckIn (w.drewN n) b M := h
theorem DeckIn.alloc {w : World} {b M : Nat} (h : DeckIn w b M) (o : Obj) : DeckIn (w.alloc o) b M := h.grown (World.grownBy_alloc w o none) (fun _ e => by cases e)
theorem DeckIn.mono {w : World} {b M M' : Nat} (h : DeckIn w b M) (hM : M ≤ M') : DeckIn w b M' := by
  obtain ⟨A, l, c, a, h1, h2, h3⟩ := h
  exact ⟨A, l, c, a, h1, by omega, h3⟩

set_option maxHeartbeats 1000000 in
theorem next_any (b M : Nat) (n : Int) (w : World) (hn : 0 < n) (hn2 : n ≤ 4611686018427387904) (hM : M ≤ 1000000) (hd : DeckIn w b M) :
    Calls Try.prog 31 #[.pointer (some ⟨b, 0, none⟩), .int .i64 n] w fun e w' => ∃ r : Int, e = .returned (.int .i64 r) ∧ 0 ≤ r ∧ r < n ∧ DeckIn w' b (M + 1) ∧ w.grownBy w' (some b) := by
  obtain ⟨A, l, c, at_, h1, h2, h3, h4, h5⟩ := hd
  have c0 := h1.cell 0
  have c1 := h1.cell 1
  have f1 := h1.frozen 1
  have hlt := h1.lt
  simp only [List.getElem?_toArray, List.getElem?_cons_zero, List.getElem?_cons_succ] at c0 c1
  have fin : ∀ q : Nat, DeckIn ((w.setCell ⟨b, 1, none⟩ (.int .i64 ((at_ : Int) + 1))).drewN q) b (M + 1) ∧ w.grownBy ((w.setCell ⟨b, 1, none⟩ (.int .i64 ((at_ : Int) + 1))).drewN q) (some b) := by
    intro q
    have g1 : w.grownBy (w.setCell ⟨b, 1, none⟩ (.int .i64 ((at_ : Int) + 1))) (some b) := only_setCell (only_refl _ _) (.inl rfl) _
    refine ⟨?_, only_drewN g1 q⟩
    refine ⟨A, l, c, at_ + 1, ?_, by omega, ?_, h4, h5⟩
    · have := h1.set_ 1 (.int .i64 ((at_ : Int) + 1))
      have := this.drewN q
      simpa using this
    · exact (SliceOf.grown h3 (only_drewN g1 q) (by omega) (fun g e => by injection e with e; omega))
  have FIN := Lib.hid fin
  clear fin
  have fin2 : ∀ v : Int, (v.tmod n < 0 → ∃ r : Int, wrap64 (v.tmod n + n) = r ∧ 0 ≤ r ∧ r < n) ∧ (0 ≤ v.tmod n → v.tmod n < n) := by
    intro v
    refine ⟨fun h => ⟨_, rfl, ?_⟩, fun _ => Int.tmod_lt_of_pos v hn⟩
    have a4 := Int.lt_tmod_of_pos v hn
    have : wrap64 (v.tmod n + n) = v.tmod n + n := by unfold wrap64; omega
    rw [this]; omega
  have FIN2 := Lib.hid fin2
  clear fin2
  by_cases hc : at_ < l.length
  · obtain ⟨cb, off, rfl, hb, hx⟩ := h3.at_ hc
    have hx0 := hx 0 _ rfl
    simp only [Nat.add_zero, Nat.mul_one] at hx0
    have hi := h5 _ (List.getElem_mem hc)
    clear h1 h3 h5 hx
    go_enter Try.func31, Try.ntmps31
    go_wp2
    go_quiet (fail)
    go_wp2
    go_quiet (fail)
    go_wp2
    · rename_i h
      obtain ⟨r, hr, h0, h1⟩ := (FIN2.out _).1 h
      go_ret
      exact ⟨r, by rw [← hr]; rfl, h0, h1, FIN.out _⟩
    · rename_i h
      go_ret
      exact ⟨_, rfl, h, (FIN2.out _).2 h, FIN.out _⟩
  · clear h1 h3 h5
    go_enter Try.func31, Try.ntmps31
    go_wp2
    go_quiet (fail)
    go_wp2
    go_ret
    exact ⟨_, rfl, ‹_›, Int.emod_lt_of_pos _ hn, FIN.out _⟩


set_option maxHeartbeats 400000 in
theorem new_any (A : Option Addr) (l : List Int) (c : Nat) (w : World) (h : SliceOf encI 1 w w.heap.size A l) (hl : l.length ≤ 9223372036854775807) (h5 : ∀ x ∈ l, I64 x) :
    Calls Try.prog 10 #[.slice A l.length c] w fun e w' => e = .returned (.pointer (some ⟨w.heap.size, 0, none⟩)) ∧ DeckIn w' w.heap.size 0 ∧ Below w.heap.size w w' := by
  have fin : DeckIn (w.alloc (.cells #[.slice A l.length c, .int .i64 0] 59)) w.heap.size 0 :=
    ⟨A, l, c, 0, Blk.new _ _ _, Nat.le_refl _, h.below ((Below.refl _ _).alloc (Nat.le_refl _) _), hl, h5⟩
  have FIN := Lib.hid fin
  clear fin h h5
  go_enter Try.func10, Try.ntmps10
  go_wp2
  go_ret
  exact ⟨rfl, FIN.out, (Below.refl _ _).alloc (Nat.le_refl _) _⟩

set_option maxHeartbeats 400000 in
theorem pick_any (b M : Nat) (w : World) (A : Option Addr) (l : List Int) (c : Nat) (hM : M ≤ 1000000) (hd : DeckIn w b M) (hl : l ≠ []) (hn : l.length ≤ 1000) (hs : SliceOf encI 1 w w.heap.size A l) (hA : ∀ a, A = some a → a.block ≠ b) :
    Calls Try.prog 28 #[.pointer (some ⟨b, 0, none⟩), .slice A l.length c] w fun e w' => ∃ r : Int, e = .returned (.int .i64 r) ∧ r ∈ l ∧ DeckIn w' b (M + 1) ∧ w.grownBy w' (some b) := by
  have hpos : 0 < l.length := List.length_pos_iff.2 hl
  have hlt := hd.lt
  obtain ⟨cb, off, rfl, hcb, hc⟩ := hs hl
  have hne := hA _ rfl
  have HC := Lib.hid hc
  clear hA hc hs hl
  go_enter Try.func28, Try.ntmps28
  go_wp2_with fail
  refine (next_any b M _ _ (by omega) (by omega) hM hd).mono ?_
  rintro e w' ⟨r, rfl, h0, h1, hd1, hg⟩
  obtain ⟨j, rfl⟩ := Int.eq_ofNat_of_zero_le h0
  have hj : j < l.length := by omega
  have hx := (World.cell?_of_block (a := ⟨cb, off + j * 1 + 0, none⟩) (hg.block cb hcb (fun e => hne (by injection e)))).trans (HC.out j _ (List.getElem?_eq_getElem hj) 0 _ rfl)
  simp only [Nat.add_zero, Nat.mul_one] at hx
  go_wp2
  go_ret
  exact ⟨_, rfl, List.getElem_mem _, hd1, hg⟩

end Go.Proofs.Ytbiajkknpkeeoaa
