/- Contracts of the functions on elements that need no wage: ShortElements, Same, At. Conditions: as stated in each theorem. -/
import Derived.Test.YtcpkdpflkjjlcaaGen
namespace Go.Proofs.Ytcpkdpflkjjlcaa
open Go.RowKit

theorem sets6 {cs : Array Value} (hs : cs.size = 6) (a0 a1 a2 a3 a4 a5 : Value) : ((((((cs.setIfInBounds 0 a0).setIfInBounds 1 a1).setIfInBounds 2 a2).setIfInBounds 3 a3).setIfInBounds 4 a4).setIfInBounds 5 a5) = #[a0, a1, a2, a3, a4, a5] := by
  obtain ⟨l⟩ := cs
  match l, hs with
  | [_, _, _, _, _, _], _ => rfl
theorem Blk.put6 {w : World} {g : Nat} {t : TypeId} {cs : Array Value} (h : Blk w g t cs) (hs : cs.size = 6) (a0 a1 a2 a3 a4 a5 : Value) :
    Blk ((((((w.setCell ⟨g, 0, none⟩ a0).setCell ⟨g, 1, none⟩ a1).setCell ⟨g, 2, none⟩ a2).setCell ⟨g, 3, none⟩ a3).setCell ⟨g, 4, none⟩ a4).setCell ⟨g, 5, none⟩ a5) g t #[a0, a1, a2, a3, a4, a5] := by
  rw [← sets6 hs a0 a1 a2 a3 a4 a5]
  exact (((((h.set_ 0 a0).set_ 1 a1).set_ 2 a2).set_ 3 a3).set_ 4 a4).set_ 5 a5
theorem below_put {w W : World} {g : Nat} (h : Below w.heap.size w W) (hg : w.heap.size ≤ g) (i : Nat) (a : Value) : Below w.heap.size w (W.setCell ⟨g, i, none⟩ a) := h.setCell (p := ⟨g, i, none⟩) hg a

def shortEB (l : List Elem) : Bool := decide (l.length ≤ 140) && l.all fun x => decide (x.code.size ≤ 60)

set_option maxHeartbeats 400000 in
theorem shortE_any (A : Option Addr) (cap : Nat) (xs : List Elem) (w : World) (B : Nat) (h : SliceOf encE 2 w B A xs) (hl : xs.length ≤ 9223372036854775807) :
    Calls Try.prog 10 #[.slice A xs.length cap] w fun e w' => e = .returned (.bool (shortEB xs)) ∧ w = w' := by
  by_cases hlen : 140 < xs.length
  · have HV : Hid (shortEB xs = false) := by simp [Hid, shortEB]; intro; omega
    go_enter Try.func10, Try.ntmps10
    go_wp2
    go_ret
    exact ⟨by rw [HV.out]; rfl, rfl⟩
  · have hlen' : xs.length ≤ 140 := by omega
    clear hlen
    go_enter Try.func10, Try.ntmps10
    go_wp2
    go_loop [3] (fun i => ∃ k : Nat, k ≤ xs.length ∧ i = .int .i64 k ∧ Hid (∀ j, (hj : j < xs.length) → j < k → xs[j].code.size ≤ 60)) (fun i => xs.length - (intOf i).toNat)
    case atStart => exact ⟨0, by omega, rfl, fun j _ hj => absurd hj (by omega)⟩
    case round =>
      obtain ⟨k, hk, rfl, hall⟩ := hrel
      by_cases hlt : k < xs.length
      · obtain ⟨b, off, rfl, hb, hc⟩ := h.at_ hlt
        have c0 := hc 0 _ rfl
        simp only [Nat.add_zero] at c0
        clear hc
        by_cases ht : 60 < xs[k].code.size
        · have HV : Hid (shortEB xs = false) := by
            simp only [Hid, shortEB, Bool.and_eq_false_iff, List.all_eq_false]
            exact .inr ⟨xs[k], List.getElem_mem _, by simp; omega⟩
          go_wp2
          go_ret
          exact ⟨by rw [HV.out]; rfl, rfl⟩
        · have ht' : xs[k].code.size ≤ 60 := by omega
          clear ht
          go_wp2
          go_round
          case rel =>
            refine ⟨k + 1, by omega, by go_num, fun j hj hjk => ?_⟩
            rcases Nat.lt_or_ge j k with h1 | h1
            · exact hall.out j hj h1
            · obtain rfl : j = k := by omega
              exact ht'
          case measure => simp [intOf]; omega
      · have HV : Hid (shortEB xs = true) := by
          simp only [Hid, shortEB, Bool.and_eq_true, List.all_eq_true, decide_eq_true_eq]
          refine ⟨hlen', fun x hx => ?_⟩
          obtain ⟨j, hj, rfl⟩ := List.mem_iff_getElem.1 hx
          exact hall.out j hj (by omega)
        go_wp2
        go_ret
        exact ⟨by rw [HV.out]; rfl, rfl⟩


def sameB (a b : List Elem) : Bool := decide (a = b)

def eqE (a b : ByteArray) (x y : Int) : Bool := (a.toList == b.toList) && (x == y)
theorem neqE (a b : ByteArray) (x y : Int) (w : World) : Sem.run Try.prog (binOp .neq 60 (.agg #[.string a, .int .i64 x]) (.agg #[.string b, .int .i64 y])) w = .ok (.bool (!eqE a b x y)) w := by
  have u3 := Try.underlying3
  have u9 := Try.underlying9
  have a3 := Try.isAgg3
  have z3 := Try.sizeOf3
  have a9 := Try.isAgg9
  have z9 := Try.sizeOf9
  have hS : Try.prog.underlying 60 = some (.struct (Try.prog.fieldsOf 60)) := by kernel_rfl
  have hp : Try.prog.stoodInHeld 60 = false := by kernel_rfl
  rw [run_neq_struct, show (10000 : Nat) = 9999 + 1 from rfl, run_equalIn_agg w 9999 60 _ _ hS hp]
  simp only [Program.fieldsOf, Try.underlying60]
  go_simp
  by_cases h1 : a.toList = b.toList <;> by_cases h2 : x = y <;> simp [h1, h2, eqE]
theorem guardE : Try.prog.eqGuardType Try.prog.depth 60 = false := by kernel_rfl
theorem eqE_iff (x y : Elem) : eqE x.code y.code x.amount y.amount = true ↔ x = y := by
  obtain ⟨a, p⟩ := x
  obtain ⟨b, q⟩ := y
  simp only [eqE, Bool.and_eq_true, beq_iff_eq, Elem.mk.injEq, ByteArray.toList_eq]
  refine ⟨fun ⟨h1, h2⟩ => ⟨?_, h2⟩, fun ⟨h1, h2⟩ => ⟨by rw [h1], h2⟩⟩
  obtain ⟨⟨l⟩⟩ := a
  obtain ⟨⟨m⟩⟩ := b
  simp at h1
  rw [h1]

set_option maxHeartbeats 1000000 in
theorem same_any (A B : Option Addr) (c d : Nat) (xs ys : List Elem) (w : World) (N : Nat) (hx : SliceOf encE 2 w N A xs) (hy : SliceOf encE 2 w N B ys) (hl : xs.length ≤ 9223372036854775807) (hl2 : ys.length ≤ 9223372036854775807) :
    Calls Try.prog 27 #[.slice A xs.length c, .slice B ys.length d] w fun e w' => e = .returned (.bool (sameB xs ys)) ∧ ∃ q, w' = w.drewN q := by
  by_cases hlen : xs.length = ys.length
  · have hlen' : ((xs.length : Int) != (ys.length : Int)) = false := by simp [hlen]
    have H1 := Lib.hid hlen
    have hle : xs.length ≤ ys.length := by omega
    clear hlen
    go_enter Try.func27, Try.ntmps27
    go_wp2
    go_loopw [5] (fun i wr => ∃ k q : Nat, k ≤ xs.length ∧ i = .int .i64 k ∧ Hid (∀ j, j < k → xs[j]? = ys[j]?) ∧ Hid (wr = w.drewN q)) (fun i _ => xs.length - (intOf i).toNat)
    case atStart => exact ⟨0, 0, by omega, rfl, fun j hj => absurd hj (by omega), rfl⟩
    case round =>
      obtain ⟨k, q, hk, rfl, hall, hw⟩ := hrel
      have hx' : SliceOf encE 2 wr N A xs := by rw [hw.out]; exact hx
      have hy' : SliceOf encE 2 wr N B ys := by rw [hw.out]; exact hy
      by_cases hlt : k < xs.length
      · have hlt2 : k < ys.length := by omega
        obtain ⟨b1, off1, rfl, hb1, hc1⟩ := hx'.at_ hlt
        obtain ⟨b2, off2, rfl, hb2, hc2⟩ := hy'.at_ hlt2
        have c0 := hc1 0 _ rfl
        have c1 := hc1 1 _ rfl
        have d0 := hc2 0 _ rfl
        have d1 := hc2 1 _ rfl
        simp only [Nat.add_zero] at c0 d0
        clear hc1 hc2
        have hn := fun (w : World) => neqE xs[k].code ys[k].code xs[k].amount ys[k].amount w
        have hgd := guardE
        by_cases ht : eqE xs[k].code ys[k].code xs[k].amount ys[k].amount = true
        · have HT := Lib.hid ht
          go_wp2
          go_quiet (fail)
          go_wp2
          go_roundw
          case rel =>
            refine ⟨k + 1, q + nq, by omega, by go_num, fun j hj => ?_, ?_⟩
            · rcases Nat.lt_or_ge j k with h1 | h1
              · exact hall.out j h1
              · obtain rfl : j = k := by omega
                rw [List.getElem?_eq_getElem hlt, List.getElem?_eq_getElem hlt2, (eqE_iff _ _).1 HT.out]
            · show wr.drewN nq = w.drewN (q + nq)
              rw [hw.out, World.drewN_drewN]
          case measure => simp [intOf]; omega
        · have ht' : eqE xs[k].code ys[k].code xs[k].amount ys[k].amount = false := by simpa using ht
          have HT : Hid (¬ xs = ys) := fun e => ht ((eqE_iff _ _).2 (by simp [e]))
          clear ht
          go_wp2
          go_quiet (fail)
          go_wp2
          go_ret
          exact ⟨by rw [sameB, decide_eq_false HT.out]; rfl, q + nq, by rw [hw.out, World.drewN_drewN]⟩
      · go_wp2
        go_ret
        have : xs = ys := by
          apply List.ext_getElem?
          intro j
          rcases Nat.lt_or_ge j k with h1 | h1
          · exact hall.out j h1
          · have := H1.out
            rw [List.getElem?_eq_none (by omega), List.getElem?_eq_none (by omega)]
        exact ⟨by rw [sameB, decide_eq_true this]; rfl, q, hw.out⟩
  · have hlen' : ((xs.length : Int) != (ys.length : Int)) = true := by simp; omega
    have H1 : Hid (¬ xs = ys) := fun e => hlen (by rw [e])
    clear hlen
    go_enter Try.func27, Try.ntmps27
    go_wp2
    go_ret
    exact ⟨by rw [sameB, decide_eq_false H1.out]; rfl, 0, rfl⟩

end Go.Proofs.Ytcpkdpflkjjlcaa
