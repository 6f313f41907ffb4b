/- Entries of the ledger: the type, records by run and account, what Merge, Trial and Balanced hand back. Plain definitions and laws. Conditions: as stated. -/
import Derived.Test.YtbiajkknpkeeoaaGen
import Derived.Test.YtbiajkknpkeeoaaData2
import Derived.Test.YtbiajkknpkeeoaaCmpI
import Derived.Test.YtbiajkknpkeeoaaRec2
import Derived.Deep.Light
namespace Go.Proofs.Ytbiajkknpkeeoaa
open Go.RowKit

structure BookT where
  run : Int
  account : Int
  amount : Int
deriving DecidableEq
def encB (x : BookT) : List Value := [.int .i64 x.run, .int .i64 x.account, .int .i64 x.amount]
theorem encB_len (x : BookT) : (encB x).length = 3 := rfl
theorem encB_one (x : BookT) : ∀ u ∈ encB x, u.oneCell' = true := by intro u hu; simp [encB] at hu; rcases hu with rfl | rfl | rfl <;> rfl
def aggB (x : BookT) : Value := .agg #[.int .i64 x.run, .int .i64 x.account, .int .i64 x.amount]
theorem infoB : (Try.prog.info? 42).map (fun i => (i.zero, i.size, i.bytes)) = some (some (.agg #[.int .i64 0, .int .i64 0, .int .i64 0]), 3, 24) := by kernel_rfl
theorem eqlselfB (y : BookT) (w : World) : Sem.run Try.prog (binOp .eql 42 (.agg #[.int .i64 y.run, .int .i64 y.account, .int .i64 y.amount]) (.agg #[.int .i64 y.run, .int .i64 y.account, .int .i64 y.amount])) w = .ok (.bool true) w := by
  have u0 := Try.underlying3
  have a0 := Try.isAgg3
  have z0 := Try.sizeOf3
  have hS : Try.prog.underlying 42 = some (.struct (Try.prog.fieldsOf 42)) := by kernel_rfl
  have hp : Try.prog.stoodInHeld 42 = false := by kernel_rfl
  rw [run_eql_struct, show (10000 : Nat) = 9999 + 1 from rfl, run_equalIn_agg w 9999 42 _ _ hS hp]
  simp only [Program.fieldsOf, Try.underlying42]
  go_simp
theorem guardB : Try.prog.eqGuardType Try.prog.depth 42 = false := by kernel_rfl
theorem neqselfB (y : BookT) (w : World) : Sem.run Try.prog (binOp .neq 42 (.agg #[.int .i64 y.run, .int .i64 y.account, .int .i64 y.amount]) (.agg #[.int .i64 y.run, .int .i64 y.account, .int .i64 y.amount])) w = .ok (.bool false) w := by
  have u0 := Try.underlying3
  have a0 := Try.isAgg3
  have z0 := Try.sizeOf3
  have hS : Try.prog.underlying 42 = some (.struct (Try.prog.fieldsOf 42)) := by kernel_rfl
  have hp : Try.prog.stoodInHeld 42 = false := by kernel_rfl
  rw [run_neq_struct, show (10000 : Nat) = 9999 + 1 from rfl, run_equalIn_agg w 9999 42 _ _ hS hp]
  simp only [Program.fieldsOf, Try.underlying42]
  go_simp
set_option maxHeartbeats 1000000 in
theorem sameB_self (A B : Option Addr) (c d : Nat) (xs : List BookT) (w : World) (hx : SliceOf encB 3 w w.heap.size A xs) (hy : SliceOf encB 3 w w.heap.size B xs) (hl : xs.length ≤ 9223372036854775807) :
    Calls Try.prog 16 #[.slice A xs.length c, .slice B xs.length d] w fun e w' => e = .returned (.bool true) ∧ ∃ q, w' = w.drewN q := by
  have hlen' : ((xs.length : Int) != (xs.length : Int)) = false := by simp
  go_enter Try.func16, Try.ntmps16
  go_wp2
  go_loopw [5] (fun i wr => ∃ k q : Nat, k ≤ xs.length ∧ i = .int .i64 k ∧ Hid (wr = w.drewN q)) (fun i _ => xs.length - (intOf i).toNat)
  case atStart => exact ⟨0, 0, by omega, rfl, rfl⟩
  case round =>
    obtain ⟨k, q, hk, rfl, hw⟩ := hrel
    have hx' : SliceOf encB 3 wr w.heap.size A xs := by rw [hw.out]; exact hx
    have hy' : SliceOf encB 3 wr w.heap.size B xs := by rw [hw.out]; exact hy
    by_cases hlt : k < xs.length
    · obtain ⟨b1, off1, rfl, hb1, hc1⟩ := hx'.at_ hlt
      obtain ⟨b2, off2, rfl, hb2, hc2⟩ := hy'.at_ hlt
      have c0 := hc1 0 _ rfl
      have c1 := hc1 1 _ rfl
      have c2 := hc1 2 _ rfl
      have d0 := hc2 0 _ rfl
      have d1 := hc2 1 _ rfl
      have d2 := hc2 2 _ rfl
      simp only [Nat.add_zero] at c0 d0
      clear hc1 hc2
      have hn := fun (w : World) => neqselfB xs[k] w
      have hgd := guardB
      go_wp2
      go_quiet (fail)
      go_wp2
      go_roundw
      case rel =>
        refine ⟨k + 1, q + nq, by omega, by go_num, ?_⟩
        show wr.drewN nq = w.drewN (q + nq)
        rw [hw.out, World.drewN_drewN]
      case measure => simp [intOf]; omega
    · go_wp2
      go_ret
      exact ⟨rfl, q, hw.out⟩

def okB (x : BookT) : Bool := (decide (0 ≤ x.run) && decide (x.run ≤ 256)) && (decide (100 ≤ x.account) && decide (x.account ≤ 9999)) && maxN x.amount
theorem okB_iff (x : BookT) : okB x = true ↔ (0 ≤ x.run ∧ x.run ≤ 256) ∧ (100 ≤ x.account ∧ x.account ≤ 9999) ∧ -1000000000000 ≤ x.amount ∧ x.amount ≤ 1000000000000 := by
  simp [okB, maxN, and_assoc]
abbrev KeyB := Int × Int × Int
def ltB (a b : KeyB) : Bool := decide (a.1 < b.1) || (decide (a.1 = b.1) && (decide (a.2.1 < b.2.1) || (decide (a.2.1 = b.2.1) && decide (a.2.2 < b.2.2))))
/-- Entries as records: run and account (a third number that is 0), and the amount. -/
def RB : Rec BookT KeyB := ⟨fun x => (x.run, x.account, 0), (·.amount), fun x n => ⟨x.run, x.account, n⟩, ltB⟩
theorem RB_law : RB.Law where
  key_set _ _ := rfl
  amt_set _ _ := rfl
  ext x y h1 h2 := by
    obtain ⟨a, b, c⟩ := x
    obtain ⟨a', b', c'⟩ := y
    simp only [RB, Prod.mk.injEq] at h1 h2
    obtain ⟨rfl, rfl, _⟩ := h1
    rw [h2]
  irrefl a := by simp [RB, ltB]
  trans a b c h1 h2 := by
    simp only [RB, ltB, Bool.or_eq_true, Bool.and_eq_true, decide_eq_true_eq] at *
    omega
  total a b h1 h2 := by
    obtain ⟨a1, a2, a3⟩ := a
    obtain ⟨b1, b2, b3⟩ := b
    simp only [RB, ltB, Bool.or_eq_false_iff, Bool.and_eq_false_iff, decide_eq_false_iff_not] at h1 h2
    have e1 : a1 = b1 := by omega
    have e2 : a2 = b2 := by omega
    have e3 : a3 = b3 := by omega
    rw [e1, e2, e3]
theorem keyB_eq (x y : BookT) : RB.key x = RB.key y ↔ x.run = y.run ∧ x.account = y.account := by simp [RB]
theorem ltB_eq (x y : BookT) : RB.lt (RB.key x) (RB.key y) = (decide (x.run < y.run) || (decide (x.run = y.run) && decide (x.account < y.account))) := by
  simp [RB, ltB]

def overB (l : List BookT) : Bool := l.any fun x => !maxN x.amount
def mErrB (l : List BookT) : Int := if 131072 < l.length then 3 else if l.all okB = false then 2 else if overB (RB.sums l) then 4 else 0
def mRB (l : List BookT) : List BookT := if mErrB l = 0 then (RB.sums l).filter RB.nz else []
theorem mErrB_3 {l : List BookT} (h : 131072 < l.length) : mErrB l = 3 := by rw [mErrB, if_pos h]
theorem mErrB_2 {l : List BookT} (h : ¬ 131072 < l.length) (h2 : l.all okB = false) : mErrB l = 2 := by rw [mErrB, if_neg h, if_pos h2]
theorem mErrB_4 {l : List BookT} (h : ¬ 131072 < l.length) (h2 : l.all okB = true) : mErrB l = if overB (RB.sums l) then 4 else 0 := by rw [mErrB, if_neg h, if_neg (by simp [h2])]
theorem mRB_no {l : List BookT} {n : Int} (h : mErrB l = n) (hn : n ≠ 0) : mRB l = [] := by rw [mRB, if_neg (by rw [h]; exact hn)]
theorem mRB_ok {l : List BookT} (h : mErrB l = 0) : mRB l = (RB.sums l).filter RB.nz := by rw [mRB, if_pos h]
theorem mErrB_0 {l : List BookT} (h : mErrB l = 0) : l.length ≤ 131072 ∧ l.all okB = true ∧ overB (RB.sums l) = false := by
  have h1 : ¬ 131072 < l.length := fun hh => by rw [mErrB_3 hh] at h; cases h
  have h2 : l.all okB = true := by
    cases hh : l.all okB
    · rw [mErrB_2 h1 hh] at h; cases h
    · rfl
  refine ⟨by omega, h2, ?_⟩
  rw [mErrB_4 h1 h2] at h
  cases hh : overB (RB.sums l)
  · rfl
  · rw [hh] at h; cases h
theorem mRB_len (l : List BookT) : (mRB l).length ≤ 131072 := by
  by_cases h : mErrB l = 0
  · rw [mRB_ok h]
    exact Nat.le_trans (List.length_filter_le _ _) (Nat.le_trans (Rec.sums_length l) (mErrB_0 h).1)
  · rw [mRB, if_neg h]; simp
/-- What Merge hands back is sorted, totals that are not 0. -/
theorem mRB_facts (l : List BookT) : RB.Sorted (mRB l) ∧ (∀ x ∈ mRB l, okB x = true ∧ x.amount ≠ 0) := by
  by_cases h : mErrB l = 0
  · rw [mRB_ok h]
    obtain ⟨h1, h2, h3⟩ := mErrB_0 h
    refine ⟨(Rec.sums_sorted RB_law l).filter _, fun x hx => ?_⟩
    obtain ⟨hx1, hx2⟩ := List.mem_filter.1 hx
    refine ⟨?_, (Rec.mem_nz x).1 hx2⟩
    obtain ⟨y, hy, hk⟩ := Rec.sums_keys RB_law hx1
    have hy2 := (okB_iff y).1 (List.all_eq_true.1 h2 y hy)
    obtain ⟨k1, k2⟩ := (keyB_eq y x).1 hk
    have h4 : maxN x.amount = true := by
      rw [overB, List.any_eq_false] at h3
      simpa using h3 x hx1
    rw [okB_iff]
    simp [maxN] at h4
    rw [← k1, ← k2]
    exact ⟨hy2.1, hy2.2.1, h4⟩
  · rw [mRB, if_neg h]; exact ⟨List.Pairwise.nil, by simp⟩

def zeroRun (x : BookT) : BookT := ⟨0, x.account, x.amount⟩
/-- The sum of the amounts of a run. -/
def runTot : List BookT → Int → Int
  | [], _ => 0
  | x :: l, r => (if x.run = r then x.amount else 0) + runTot l r
def balL (m : List BookT) : Bool := m.all fun x => runTot m x.run == 0
def balB (l : List BookT) : Bool := if mErrB l = 0 then balL (mRB l) else false
theorem runTot_append (l m : List BookT) (r : Int) : runTot (l ++ m) r = runTot l r + runTot m r := by
  induction l with
  | nil => simp [runTot]
  | cons a l ih => simp [runTot, ih]; omega
theorem runTot_take (l : List BookT) (k : Nat) (h : k < l.length) (r : Int) : runTot (l.take (k + 1)) r = runTot (l.take k) r + if l[k].run = r then l[k].amount else 0 := by
  rw [List.take_succ_eq_append_getElem h, runTot_append]; simp [runTot]
theorem runTot_out {l : List BookT} {r : Int} (h : ∀ x ∈ l, x.run ≠ r) : runTot l r = 0 := by
  induction l with
  | nil => rfl
  | cons a l ih => simp only [runTot, if_neg (h a (by simp))]; rw [ih (fun x hx => h x (by simp [hx]))]; rfl
theorem runTot_bd (l : List BookT) (r : Int) (h : ∀ x ∈ l, okB x = true) : -(l.length * 1000000000000 : Int) ≤ runTot l r ∧ runTot l r ≤ l.length * 1000000000000 := by
  induction l with
  | nil => simp [runTot]
  | cons a l ih =>
    have h1 := ih (fun x hx => h x (by simp [hx]))
    have h2 := ((okB_iff a).1 (h a (by simp))).2.2
    simp only [runTot, List.length_cons]
    have e9 : ((l.length + 1 : Nat) : Int) * 1000000000000 = (l.length : Int) * 1000000000000 + 1000000000000 := by omega
    rw [e9]
    split <;> omega
theorem sorted_run {m : List BookT} (h : RB.Sorted m) {i j : Nat} (hi : i < m.length) (hj : j < m.length) (hij : i ≤ j) : m[i].run ≤ m[j].run := by
  rcases Nat.lt_or_ge i j with h1 | h1
  · have := List.pairwise_iff_getElem.1 h i j hi hj h1
    rw [ltB_eq] at this
    simp only [Bool.or_eq_true, Bool.and_eq_true, decide_eq_true_eq] at this
    omega
  · obtain rfl : i = j := by omega
    exact Int.le_refl _

end Go.Proofs.Ytbiajkknpkeeoaa
