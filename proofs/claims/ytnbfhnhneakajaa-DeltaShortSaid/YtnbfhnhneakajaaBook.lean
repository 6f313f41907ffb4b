/- Contracts of book.Valid, ascending, valid, Book, Add, merged and Result, for books that are valid. Conditions: as stated. -/
import Derived.Test.YtnbfhnhneakajaaPost
import Derived.Deep.QuietTactic
import Derived.BigQuiet
namespace Go.Proofs.Ytnbfhnhneakajaa
open Go.RowKit

structure PostOk (p : PostT) : Prop where
  r1 : 1 ≤ p.run
  r2 : p.run ≤ 256
  e1 : 1 ≤ p.employee
  e2 : p.employee ≤ 2147483647
  p1 : 0 ≤ p.period
  p2 : p.period ≤ 84005
  form : formZ p.line = true
  code : p.line.code.size ≤ maxLen

set_option maxHeartbeats 1000000 in
theorem bvalid_yes (p : PostT) (w : World) (h : PostOk p) :
    Calls Try.prog 58 #[aggP p] w fun e w' => e = .returned (.bool true) ∧ Below w.heap.size w w' := by
  obtain ⟨r1, r2, e1, e2, p1, p2, hf, hc⟩ := h
  have HF := Lib.hid hf
  clear hf
  unfold aggP
  go_enter Try.func58, Try.ntmps58
  go_wp2_with fail
  refine (formp_any p.line _ hc).mono ?_
  rintro e w1 ⟨rfl, hb1⟩
  rw [HF.out]
  go_wp2
  go_ret
  exact ⟨rfl, bel_adv (below_new w _) hb1⟩

set_option maxHeartbeats 1000000 in
theorem ascending_yes (A : Option Addr) (c : Nat) (xs : List PostT) (w : World) (h : SliceOf encP 6 w w.heap.size A xs) (hl : xs.length ≤ 9223372036854775806)
    (ha : ∀ i, (hi : i + 1 < xs.length) → xs[i].run ≤ xs[i + 1].run) :
    Calls Try.prog 47 #[.slice A xs.length c] w fun e w' => e = .returned (.bool true) ∧ ∃ q, w' = w.drewN q := by
  have HA := Lib.hid ha
  clear ha
  go_enter Try.func47, Try.ntmps47
  go_wp2
  go_loopw [3] (fun i wr => ∃ k q : Nat, i = .int .i64 ((k : Int) + 1) ∧ k ≤ xs.length ∧ Hid (wr = w.drewN q)) (fun i _ => xs.length + 1 - (intOf i).toNat)
  case atStart => exact ⟨0, 0, rfl, by omega, rfl⟩
  case round =>
    obtain ⟨k, q, rfl, hkl, hw⟩ := hrel
    have hx' : SliceOf encP 6 wr w.heap.size A xs := by rw [hw.out]; exact h
    by_cases hlt : k + 1 < xs.length
    · obtain ⟨b1, off1, rfl, hb1, hc1⟩ := hx'.at_ hlt
      obtain ⟨b2, off2, hA2, hb2, hc2⟩ := hx'.at_ (show k < xs.length by omega)
      injection hA2 with hA2
      injection hA2 with hA3 hA4
      subst hA3 hA4
      have c0 := hc1 0 _ rfl
      have d0 := hc2 0 _ rfl
      simp only [Nat.add_zero] at c0 d0
      clear hc1 hc2
      have hle := HA.out k hlt
      have hn : decide (xs[k + 1].run < xs[k].run) = false := by simp; omega
      have hi1 : (k : Int) + 1 < (xs.length : Int) := by omega
      have hi2 : (k : Int) < (xs.length : Int) := by omega
      go_wp2
      go_quiet (fail)
      go_wp2
      go_roundw
      case rel =>
        refine ⟨k + 1, q + nq, by go_num, by omega, ?_⟩
        show wr.drewN nq = w.drewN (q + nq)
        rw [hw.out, World.drewN_drewN]
      case measure => simp [intOf]; omega
    · go_wp2
      go_ret
      exact ⟨rfl, q, hw.out⟩

set_option maxHeartbeats 1000000 in
theorem bvalids_yes (A : Option Addr) (c : Nat) (xs : List PostT) (w : World) (h : SliceOf encP 6 w w.heap.size A xs) (hl : xs.length ≤ 9223372036854775806)
    (ha : ∀ x ∈ xs, PostOk x) :
    Calls Try.prog 46 #[.slice A xs.length c] w fun e w' => e = .returned (.bool true) ∧ Below w.heap.size w w' := by
  have HA := Lib.hid ha
  clear ha
  go_enter Try.func46, Try.ntmps46
  go_wp2
  go_loopw [7] (fun i wr => ∃ k : Nat, i = .int .i64 k ∧ k ≤ xs.length ∧ Below w.heap.size w wr) (fun i _ => xs.length - (intOf i).toNat)
  case atStart => exact ⟨0, rfl, by omega, Below.refl _ _⟩
  case round =>
    obtain ⟨k, rfl, hkl, hbel⟩ := hrel
    by_cases hlt : k < xs.length
    · obtain ⟨b, off, rfl, hb, hc⟩ := (h.below hbel).at_ hlt
      have c0 := hc 0 _ rfl
      have c1 := hc 1 _ rfl
      have c2 := hc 2 _ rfl
      have c3 := hc 3 _ rfl
      have c4 := hc 4 _ rfl
      have c5 := hc 5 _ rfl
      simp only [Nat.add_zero] at c0
      clear hc
      have hok := HA.out _ (List.getElem_mem hlt)
      go_wp2_with fail
      refine (bvalid_yes xs[k] _ hok).mono ?_
      rintro e w1 ⟨rfl, hb1⟩
      go_wp2
      go_roundw
      case rel => exact ⟨k + 1, by go_num, by omega, bel_adv (bel_alloc hbel _) hb1⟩
      case measure => simp [intOf]; omega
    · go_wp2
      go_ret
      exact ⟨rfl, hbel⟩

set_option maxHeartbeats 1000000 in
theorem book_yes (A : Option Addr) (c : Nat) (xs : List PostT) (w : World) (h : SliceOf encP 6 w w.heap.size A xs) (hl : xs.length ≤ 65536)
    (ha : ∀ i, (hi : i + 1 < xs.length) → xs[i].run ≤ xs[i + 1].run) (hv : ∀ x ∈ xs, PostOk x) :
    Calls Try.prog 45 #[.slice A xs.length c] w fun e w' => e = .returned (.bool true) ∧ Below w.heap.size w w' := by
  have HA := Lib.hid ha
  have HV := Lib.hid hv
  clear ha hv
  go_enter Try.func45, Try.ntmps45
  go_wp2_with fail
  refine (ascending_yes A c xs _ h (by omega) HA.out).mono ?_
  rintro e w1 ⟨rfl, q1, rfl⟩
  go_wp2_with fail
  refine (bvalids_yes A c xs _ (h.advD q1) (by omega) HV.out).mono ?_
  rintro e w2 ⟨rfl, hb2⟩
  go_wp2
  go_ret
  exact ⟨rfl, bel_adv (below_drewN (Below.refl _ _) q1) hb2⟩

end Go.Proofs.Ytnbfhnhneakajaa
