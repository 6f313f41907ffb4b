/- The walk of payrolllaw26.WageFinds: it returns true and turns nothing that was there. Conditions: as stated. -/
import Derived.Test.YtlfefcfddpmccaaAwake
namespace Go.Proofs.Ytlfefcfddpmccaa
open Go.RowKit

theorem guardW : Try.prog.eqGuardType Try.prog.depth 31 = false := by kernel_rfl
theorem eqW (y : WageT) (w : World) : Sem.run Try.prog (binOp .eql 31 (.agg #[.string y.code, .int .i64 y.kind, .bool y.taxable, .bool y.insured, .bool y.attachable, .int .i64 y.account]) (.agg #[.string y.code, .int .i64 y.kind, .bool y.taxable, .bool y.insured, .bool y.attachable, .int .i64 y.account])) w = .ok (.bool true) w := by
  have u3 := Try.underlying3
  have u4 := Try.underlying4
  have u9 := Try.underlying9
  have a3 := Try.isAgg3
  have z3 := Try.sizeOf3
  have a4 := Try.isAgg4
  have z4 := Try.sizeOf4
  have a9 := Try.isAgg9
  have z9 := Try.sizeOf9
  have hS : Try.prog.underlying 31 = some (.struct (Try.prog.fieldsOf 31)) := by kernel_rfl
  have hp : Try.prog.stoodInHeld 31 = false := by kernel_rfl
  rw [run_eql_struct, show (10000 : Nat) = 9999 + 1 from rfl, run_equalIn_agg w 9999 31 _ _ hS hp]
  simp only [Program.fieldsOf, Try.underlying31]
  go_simp

set_option maxRecDepth 100000 in
set_option maxHeartbeats 2000000 in
theorem finds_walk (A : Option Addr) (cap : Nat) (xs : List WageT) (c : ByteArray) (n : Int) (w : World) (h : SliceOf encW 6 w w.heap.size A xs) (hl : xs.length ≤ 9223372036854775807) (hc : c.size ≤ maxLen) :
    Calls Try.prog 4 #[.slice A xs.length cap, .string c, .int .i64 n] w fun e w' => e = .returned (.bool true) ∧ Below w.heap.size w w' := by
  have hc' : c.size ≤ 9223372036854775807 := hc
  by_cases hsh : shortB xs = true
  · have hlen : xs.length ≤ 70 := by simp [shortB] at hsh; exact hsh.1
    by_cases hcl : c.size ≤ 60
    · by_cases hq : 0 < xs.length ∧ (bits .and .i64 n 1 == 1) = true
      · obtain ⟨hpos, hq⟩ := hq
        go_enter Try.func4, Try.ntmps4
        go_wp2_with (go_at_call 10; refine (short_any A cap xs _ _ h hl).mono ?_; rintro e w' ⟨rfl, rfl⟩)
        refine (mod_any _ _ _ (by omega) (by omega)).mono ?_
        rintro e w' ⟨rfl, rfl⟩
        generalize hr : (_ % (xs.length : Int)) = r
        have h0 : 0 ≤ r := by rw [← hr]; exact Int.emod_nonneg _ (by omega)
        have h1 : r < xs.length := by rw [← hr]; exact Int.emod_lt_of_pos _ (by omega)
        obtain ⟨j, rfl⟩ := Int.eq_ofNat_of_zero_le h0
        have hj : j < xs.length := by omega
        clear hr hq
        obtain ⟨b, off, rfl, hb, hcell⟩ := h.at_ hj
        have c0 := hcell 0 _ rfl
        simp only [Nat.add_zero] at c0
        clear hcell
        go_wp2_with fail
        refine (find_any _ cap xs xs[j].code _ ((h.below (Below.refl w.heap.size w)).more (by have := ((Below.refl w.heap.size w)).size; omega)) (by omega)).mono ?_
        rintro e w2 ⟨rfl, hb2⟩
        have hbel2 : Below w.heap.size w w2 := below_size (Below.refl w.heap.size w) hb2 ((Below.refl w.heap.size w)).size
        have hs2 := hbel2.size
        obtain ⟨y, ok, hyo⟩ : ∃ (y : WageT) (ok : Bool), foundV (findW xs xs[j].code) = .tuple #[.agg #[.string y.code, .int .i64 y.kind, .bool y.taxable, .bool y.insured, .bool y.attachable, .int .i64 y.account], .bool ok] := ⟨_, _, rfl⟩
        rw [hyo]
        have HYO := Lib.hid hyo
        clear hyo
        go_wp2_with fail
        refine (find26_any _ cap xs xs[j].code _ ((h.below (hbel2.alloc hs2 _)).more (by simp; omega)) (by omega)).mono ?_
        rintro e w3 ⟨rfl, hb3⟩
        rw [HYO.out]
        have hbel3 : Below w.heap.size w w3 := below_size (hbel2.alloc hs2 _) hb3 (by simp; omega)
        have hB2 := Blk.below (Blk.new w2 31 #[.string y.code, .int .i64 y.kind, .bool y.taxable, .bool y.insured, .bool y.attachable, .int .i64 y.account]) hb3 (by simp)
        have hs3 : w2.heap.size + 1 ≤ w3.heap.size := by have := hb3.size; simpa using this
        have hs3' : w2.heap.size < w3.heap.size := by omega
        have z0 := hB2.cell 0
        have z1 := hB2.cell 1
        have z2 := hB2.cell 2
        have z3 := hB2.cell 3
        have z4 := hB2.cell 4
        have z5 := hB2.cell 5
        simp only [List.getElem?_toArray, List.getElem?_cons_zero, List.getElem?_cons_succ] at z0 z1 z2 z3 z4 z5
        have heq := eqW y
        have hgd := guardW
        have hbel4 : Below w.heap.size w (w3.alloc (.cells #[.string y.code, .int .i64 y.kind, .bool y.taxable, .bool y.insured, .bool y.attachable, .int .i64 y.account] 31)) := hbel3.alloc hbel3.size _
        clear hb2 hb3 hB2 HYO
        go_wp2_with fail
        refine (awake_any _).mono ?_
        rintro e w5 ⟨rfl, hb5⟩
        go_wp2
        go_ret
        exact ⟨rfl, below_size hbel4 hb5 hbel4.size⟩
      · have hq' : 0 < xs.length → (bits .and .i64 n 1 == 1) = false := fun hp => by
          cases hh : (bits .and .i64 n 1 == 1)
          · rfl
          · exact absurd ⟨hp, hh⟩ hq
        clear hq
        rcases Nat.lt_or_ge 0 xs.length with hp | hp
        · have hq := hq' hp
          clear hq'
          go_enter Try.func4, Try.ntmps4
          go_wp2_with (go_at_call 10; refine (short_any A cap xs _ _ h hl).mono ?_; rintro e w' ⟨rfl, rfl⟩)
          refine (find_any _ cap xs c _ ((h.below (Below.refl w.heap.size w)).more (by have := ((Below.refl w.heap.size w)).size; omega)) (by omega)).mono ?_
          rintro e w2 ⟨rfl, hb2⟩
          have hbel2 : Below w.heap.size w w2 := below_size (Below.refl w.heap.size w) hb2 ((Below.refl w.heap.size w)).size
          have hs2 := hbel2.size
          obtain ⟨y, ok, hyo⟩ : ∃ (y : WageT) (ok : Bool), foundV (findW xs c) = .tuple #[.agg #[.string y.code, .int .i64 y.kind, .bool y.taxable, .bool y.insured, .bool y.attachable, .int .i64 y.account], .bool ok] := ⟨_, _, rfl⟩
          rw [hyo]
          have HYO := Lib.hid hyo
          clear hyo
          go_wp2_with fail
          refine (find26_any _ cap xs c _ ((h.below (hbel2.alloc hs2 _)).more (by simp; omega)) (by omega)).mono ?_
          rintro e w3 ⟨rfl, hb3⟩
          rw [HYO.out]
          have hbel3 : Below w.heap.size w w3 := below_size (hbel2.alloc hs2 _) hb3 (by simp; omega)
          have hB2 := Blk.below (Blk.new w2 31 #[.string y.code, .int .i64 y.kind, .bool y.taxable, .bool y.insured, .bool y.attachable, .int .i64 y.account]) hb3 (by simp)
          have hs3 : w2.heap.size + 1 ≤ w3.heap.size := by have := hb3.size; simpa using this
          have hs3' : w2.heap.size < w3.heap.size := by omega
          have z0 := hB2.cell 0
          have z1 := hB2.cell 1
          have z2 := hB2.cell 2
          have z3 := hB2.cell 3
          have z4 := hB2.cell 4
          have z5 := hB2.cell 5
          simp only [List.getElem?_toArray, List.getElem?_cons_zero, List.getElem?_cons_succ] at z0 z1 z2 z3 z4 z5
          have heq := eqW y
          have hgd := guardW
          have hbel4 : Below w.heap.size w (w3.alloc (.cells #[.string y.code, .int .i64 y.kind, .bool y.taxable, .bool y.insured, .bool y.attachable, .int .i64 y.account] 31)) := hbel3.alloc hbel3.size _
          clear hb2 hb3 hB2 HYO
          go_wp2_with fail
          refine (awake_any _).mono ?_
          rintro e w5 ⟨rfl, hb5⟩
          go_wp2
          go_ret
          exact ⟨rfl, below_size hbel4 hb5 hbel4.size⟩
        · have hz : xs = [] := List.eq_nil_of_length_eq_zero (by omega)
          have hg1 : decide (0 < xs.length) = false := by simp; omega
          have hg0 : decide ((0 : Int) < (xs.length : Int)) = false := by simp; omega
          clear hq' hz
          go_enter Try.func4, Try.ntmps4
          go_wp2_with (go_at_call 10; refine (short_any A cap xs _ _ h hl).mono ?_; rintro e w' ⟨rfl, rfl⟩)
          refine (find_any _ cap xs c _ ((h.below (Below.refl w.heap.size w)).more (by have := ((Below.refl w.heap.size w)).size; omega)) (by omega)).mono ?_
          rintro e w2 ⟨rfl, hb2⟩
          have hbel2 : Below w.heap.size w w2 := below_size (Below.refl w.heap.size w) hb2 ((Below.refl w.heap.size w)).size
          have hs2 := hbel2.size
          obtain ⟨y, ok, hyo⟩ : ∃ (y : WageT) (ok : Bool), foundV (findW xs c) = .tuple #[.agg #[.string y.code, .int .i64 y.kind, .bool y.taxable, .bool y.insured, .bool y.attachable, .int .i64 y.account], .bool ok] := ⟨_, _, rfl⟩
          rw [hyo]
          have HYO := Lib.hid hyo
          clear hyo
          go_wp2_with fail
          refine (find26_any _ cap xs c _ ((h.below (hbel2.alloc hs2 _)).more (by simp; omega)) (by omega)).mono ?_
          rintro e w3 ⟨rfl, hb3⟩
          rw [HYO.out]
          have hbel3 : Below w.heap.size w w3 := below_size (hbel2.alloc hs2 _) hb3 (by simp; omega)
          have hB2 := Blk.below (Blk.new w2 31 #[.string y.code, .int .i64 y.kind, .bool y.taxable, .bool y.insured, .bool y.attachable, .int .i64 y.account]) hb3 (by simp)
          have hs3 : w2.heap.size + 1 ≤ w3.heap.size := by have := hb3.size; simpa using this
          have hs3' : w2.heap.size < w3.heap.size := by omega
          have z0 := hB2.cell 0
          have z1 := hB2.cell 1
          have z2 := hB2.cell 2
          have z3 := hB2.cell 3
          have z4 := hB2.cell 4
          have z5 := hB2.cell 5
          simp only [List.getElem?_toArray, List.getElem?_cons_zero, List.getElem?_cons_succ] at z0 z1 z2 z3 z4 z5
          have heq := eqW y
          have hgd := guardW
          have hbel4 : Below w.heap.size w (w3.alloc (.cells #[.string y.code, .int .i64 y.kind, .bool y.taxable, .bool y.insured, .bool y.attachable, .int .i64 y.account] 31)) := hbel3.alloc hbel3.size _
          clear hb2 hb3 hB2 HYO
          go_wp2_with fail
          refine (awake_any _).mono ?_
          rintro e w5 ⟨rfl, hb5⟩
          go_wp2
          go_ret
          exact ⟨rfl, below_size hbel4 hb5 hbel4.size⟩
    · have hcl' : 60 < c.size := by omega
      clear hcl
      go_enter Try.func4, Try.ntmps4
      go_wp2_with (go_at_call 10; refine (short_any A cap xs _ _ h hl).mono ?_; rintro e w' ⟨rfl, rfl⟩)
      refine (awake_any _).mono ?_
      rintro e w5 ⟨rfl, hb5⟩
      go_wp2
      go_ret
      exact ⟨rfl, hb5⟩
  · have hsh' : shortB xs = false := by simpa using hsh
    clear hsh
    go_enter Try.func4, Try.ntmps4
    go_wp2_with (go_at_call 10; refine (short_any A cap xs _ _ h hl).mono ?_; rintro e w' ⟨rfl, rfl⟩)
    refine (awake_any _).mono ?_
    rintro e w5 ⟨rfl, hb5⟩
    go_wp2
    go_ret
    exact ⟨rfl, hb5⟩

end Go.Proofs.Ytlfefcfddpmccaa
