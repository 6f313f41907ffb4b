/- Contracts of payrolllaw27's awake and short. Conditions: none. -/
import Derived.Test.YtcpkdpflkjjlcaaTake
import Derived.Test.YtcpkdpflkjjlcaaGenD
namespace Go.Proofs.Ytcpkdpflkjjlcaa
open Go.RowKit

def awD : List DedT := [⟨⟨#[99, 108, 117, 98]⟩, 2, false, 50, 0, 0⟩, ⟨⟨#[112, 101, 110, 115, 105, 111, 110]⟩, 1, false, 100, 0, 0⟩]
theorem aw1 : takeE awD 0 120 [] = 0 := by decide +kernel
theorem aw2 : takeR awD false 0 120 [] = [⟨⟨#[99, 108, 117, 98]⟩, 20⟩, ⟨⟨#[112, 101, 110, 115, 105, 111, 110]⟩, 100⟩] := by decide +kernel
def awX : DedT := ⟨⟨#[97]⟩, 0, false, 0, 50000, 0⟩
theorem aw3 : wantE awX 1990 0 = 0 := by decide +kernel
theorem aw4 : wantR awX 1990 0 = 100 := by decide +kernel
theorem awEq (w : World) : Sem.run Try.prog (binOp .eql 60 (.agg #[.string ⟨#[99, 108, 117, 98]⟩, .int .i64 20]) (.agg #[.string ⟨#[99, 108, 117, 98]⟩, .int .i64 20])) w = .ok (.bool true) w := by kernel_rfl

set_option maxRecDepth 100000 in
set_option maxHeartbeats 2000000 in
theorem awake_any (w : World) : Calls Try.prog 11 #[] w fun e w' => e = .returned (.bool true) ∧ Below w.heap.size w w' := by
  have heq := awEq
  have hgd := guardE
  go_enter Try.func11, Try.ntmps11
  go_wp2_with fail
  have hL := SliceOf.new encD_len w awD _ 33 rfl
  have hcon := take_any _ none 2 0 awD [] false 0 120 (w.alloc (.cells (awD.flatMap encD).toArray 33)) (hL.more (by simp)) (by decide) (by simp [awD]) SliceOf.nil_ (by simp) (by simp)
  have HC := Lib.hid hcon
  clear hcon hL
  rw [show (awD.flatMap encD).toArray = #[.string ⟨#[99, 108, 117, 98]⟩, .int .i64 2, .bool false, .int .i64 50, .int .i64 0, .int .i64 0, .string ⟨#[112, 101, 110, 115, 105, 111, 110]⟩, .int .i64 1, .bool false, .int .i64 100, .int .i64 0, .int .i64 0] from rfl] at HC
  refine Calls.mono HC.out ?_
  rintro e w2 ⟨A2, c2, rfl, hS2, hlc2, hcm2, hb2⟩
  rw [aw1]
  rw [aw2] at hS2 hlc2 ⊢
  have hbel2 : Below w.heap.size w w2 := bel_adv (bel_alloc (Below.refl _ _) _) hb2
  clear hb2 HC
  go_wp2_with fail
  have hcon := wanted_any awX 1990 0 w2 (by decide) ⟨by omega, by omega⟩
  refine Calls.mono hcon ?_
  rintro e w3 ⟨rfl, hb3⟩
  rw [aw3, aw4]
  have hS3 := hS2.adv hb3
  have hbel3 := bel_adv hbel2 hb3
  obtain ⟨b, off, rfl, hb, hc⟩ := hS3 (by simp)
  have d0 := hc 0 _ rfl 0 _ rfl
  have d1 := hc 0 _ rfl 1 _ rfl
  have d2 := hc 1 _ rfl 0 _ rfl
  have d3 := hc 1 _ rfl 1 _ rfl
  simp only [Nat.zero_mul, Nat.add_zero, Nat.one_mul, Nat.add_assoc, Nat.reduceAdd] at d0 d1 d2 d3
  clear hS2 hS3 hc hb3
  go_wp2
  go_ret
  exact ⟨rfl, hbel3⟩

def shortDB (l : List DedT) : Bool := decide (l.length ≤ 20) && l.all fun x => decide (x.code.size ≤ 60)
set_option maxHeartbeats 400000 in
theorem shortD_any (A : Option Addr) (cap : Nat) (xs : List DedT) (w : World) (B : Nat) (h : SliceOf encD 6 w B A xs) (hl : xs.length ≤ 9223372036854775807) :
    Calls Try.prog 9 #[.slice A xs.length cap] w fun e w' => e = .returned (.bool (shortDB xs)) ∧ w = w' := by
  by_cases hlen : 20 < xs.length
  · have HV : Hid (shortDB xs = false) := by simp [Hid, shortDB]; intro; omega
    go_enter Try.func9, Try.ntmps9
    go_wp2
    go_ret
    exact ⟨by rw [HV.out]; rfl, rfl⟩
  · have hlen' : xs.length ≤ 20 := by omega
    clear hlen
    go_enter Try.func9, Try.ntmps9
    go_wp2
    go_loop [3] (fun i => ∃ k : Nat, k ≤ xs.length ∧ i = .int .i64 k ∧ Hid (∀ j, (hj : j < xs.length) → j < k → xs[j].code.size ≤ 60)) (fun i => xs.length - (intOf i).toNat)
    case atStart => exact ⟨0, by omega, rfl, fun j _ hj => absurd hj (by omega)⟩
    case round =>
      obtain ⟨k, hk, rfl, hall⟩ := hrel
      by_cases hlt : k < xs.length
      · obtain ⟨b, off, rfl, hb, hc⟩ := h.at_ hlt
        have c0 := hc 0 _ rfl
        try simp only [Nat.add_zero] at c0
        clear hc
        by_cases ht : 60 < xs[k].code.size
        · have HV : Hid (shortDB xs = false) := by
            simp only [Hid, shortDB, Bool.and_eq_false_iff, List.all_eq_false]
            exact .inr ⟨xs[k], List.getElem_mem _, by simp; omega⟩
          go_wp2
          go_ret
          exact ⟨by rw [HV.out]; rfl, rfl⟩
        · have ht' : xs[k].code.size ≤ 60 := by omega
          clear ht
          go_wp2
          go_round
          case rel =>
            refine ⟨k + 1, by omega, by go_num, fun j hj hjk => ?_⟩
            rcases Nat.lt_or_ge j k with h1 | h1
            · exact hall.out j hj h1
            · obtain rfl : j = k := by omega
              exact ht'
          case measure => simp [intOf]; omega
      · have HV : Hid (shortDB xs = true) := by
          simp only [Hid, shortDB, Bool.and_eq_true, List.all_eq_true, decide_eq_true_eq]
          refine ⟨hlen', fun x hx => ?_⟩
          obtain ⟨j, hj, rfl⟩ := List.mem_iff_getElem.1 hx
          exact hall.out j hj (by omega)
        go_wp2
        go_ret
        exact ⟨by rw [HV.out]; rfl, rfl⟩

end Go.Proofs.Ytcpkdpflkjjlcaa
