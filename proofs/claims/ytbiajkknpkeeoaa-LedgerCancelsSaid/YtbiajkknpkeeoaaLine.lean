/- Lines and postings: types, encodings, and the contracts of the small functions on them. Conditions: as stated. -/
import Derived.Test.YtbiajkknpkeeoaaGen
import Derived.Test.YtbiajkknpkeeoaaCmpI
import Derived.Test.YtbiajkknpkeeoaaRec
import Derived.Deep.Light
namespace Go.Proofs.Ytbiajkknpkeeoaa
open Go.RowKit

structure LineT where
  kind : Int
  code : ByteArray
  amount : Int
deriving DecidableEq
def encL (x : LineT) : List Value := [.int .i64 x.kind, .string x.code, .int .i64 x.amount]
theorem encL_len (x : LineT) : (encL x).length = 3 := rfl
theorem encL_one (x : LineT) : ∀ u ∈ encL x, u.oneCell' = true := by intro u hu; simp [encL] at hu; rcases hu with rfl | rfl | rfl <;> rfl
def aggL (x : LineT) : Value := .agg #[.int .i64 x.kind, .string x.code, .int .i64 x.amount]
theorem infoL : (Try.prog.info? 26).map (fun i => (i.zero, i.size, i.bytes)) = some (some (.agg #[.int .i64 0, .string ⟨#[]⟩, .int .i64 0]), 3, 32) := by kernel_rfl
structure PostT where
  run : Int
  employee : Int
  period : Int
  line : LineT
deriving DecidableEq
def encP (x : PostT) : List Value := [.int .i64 x.run, .int .i64 x.employee, .int .i64 x.period, .int .i64 x.line.kind, .string x.line.code, .int .i64 x.line.amount]
theorem encP_len (x : PostT) : (encP x).length = 6 := rfl
theorem encP_one (x : PostT) : ∀ u ∈ encP x, u.oneCell' = true := by intro u hu; simp [encP] at hu; rcases hu with rfl | rfl | rfl | rfl | rfl | rfl <;> rfl
def aggP (x : PostT) : Value := .agg #[.int .i64 x.run, .int .i64 x.employee, .int .i64 x.period, .int .i64 x.line.kind, .string x.line.code, .int .i64 x.line.amount]
theorem infoP : (Try.prog.info? 28).map (fun i => (i.zero, i.size, i.bytes)) = some (some (.agg #[.int .i64 0, .int .i64 0, .int .i64 0, .int .i64 0, .string ⟨#[]⟩, .int .i64 0]), 6, 56) := by kernel_rfl
theorem eqlselfL (y : LineT) (w : World) : Sem.run Try.prog (binOp .eql 26 (.agg #[.int .i64 y.kind, .string y.code, .int .i64 y.amount]) (.agg #[.int .i64 y.kind, .string y.code, .int .i64 y.amount])) w = .ok (.bool true) w := by
  have u0 := Try.underlying3
  have a0 := Try.isAgg3
  have z0 := Try.sizeOf3
  have u1 := Try.underlying9
  have a1 := Try.isAgg9
  have z1 := Try.sizeOf9
  have hS : Try.prog.underlying 26 = some (.struct (Try.prog.fieldsOf 26)) := by kernel_rfl
  have hp : Try.prog.stoodInHeld 26 = false := by kernel_rfl
  rw [run_eql_struct, show (10000 : Nat) = 9999 + 1 from rfl, run_equalIn_agg w 9999 26 _ _ hS hp]
  simp only [Program.fieldsOf, Try.underlying26]
  go_simp
theorem guardL : Try.prog.eqGuardType Try.prog.depth 26 = false := by kernel_rfl
theorem neqselfL (y : LineT) (w : World) : Sem.run Try.prog (binOp .neq 26 (.agg #[.int .i64 y.kind, .string y.code, .int .i64 y.amount]) (.agg #[.int .i64 y.kind, .string y.code, .int .i64 y.amount])) w = .ok (.bool false) w := by
  have u0 := Try.underlying3
  have a0 := Try.isAgg3
  have z0 := Try.sizeOf3
  have u1 := Try.underlying9
  have a1 := Try.isAgg9
  have z1 := Try.sizeOf9
  have hS : Try.prog.underlying 26 = some (.struct (Try.prog.fieldsOf 26)) := by kernel_rfl
  have hp : Try.prog.stoodInHeld 26 = false := by kernel_rfl
  rw [run_neq_struct, show (10000 : Nat) = 9999 + 1 from rfl, run_equalIn_agg w 9999 26 _ _ hS hp]
  simp only [Program.fieldsOf, Try.underlying26]
  go_simp
theorem eqlselfP (y : PostT) (w : World) : Sem.run Try.prog (binOp .eql 28 (.agg #[.int .i64 y.run, .int .i64 y.employee, .int .i64 y.period, .int .i64 y.line.kind, .string y.line.code, .int .i64 y.line.amount]) (.agg #[.int .i64 y.run, .int .i64 y.employee, .int .i64 y.period, .int .i64 y.line.kind, .string y.line.code, .int .i64 y.line.amount])) w = .ok (.bool true) w := by
  have u0 := Try.underlying3
  have a0 := Try.isAgg3
  have z0 := Try.sizeOf3
  have u1 := Try.underlying9
  have a1 := Try.isAgg9
  have z1 := Try.sizeOf9
  have hS : Try.prog.underlying 28 = some (.struct (Try.prog.fieldsOf 28)) := by kernel_rfl
  have hp : Try.prog.stoodInHeld 28 = false := by kernel_rfl
  rw [run_eql_struct, show (10000 : Nat) = 9999 + 1 from rfl, run_equalIn_agg w 9999 28 _ _ hS hp]
  simp only [Program.fieldsOf, Try.underlying28]
  have hS2 : Try.prog.underlying 26 = some (.struct (Try.prog.fieldsOf 26)) := by kernel_rfl
  have hp2 : Try.prog.stoodInHeld 26 = false := by kernel_rfl
  have hag := Try.isAgg26
  have hsz := Try.sizeOf26
  have hin := fun v v' => run_equalIn_agg (P := Try.prog) w 9998 26 v v' hS2 hp2
  simp only [Program.fieldsOf, Try.underlying26] at hin
  rw [show (9998 + 1 : Nat) = 9999 from rfl] at hin
  clear hS hS2 hp hp2
  go_simp
theorem guardP : Try.prog.eqGuardType Try.prog.depth 28 = false := by kernel_rfl
theorem neqselfP (y : PostT) (w : World) : Sem.run Try.prog (binOp .neq 28 (.agg #[.int .i64 y.run, .int .i64 y.employee, .int .i64 y.period, .int .i64 y.line.kind, .string y.line.code, .int .i64 y.line.amount]) (.agg #[.int .i64 y.run, .int .i64 y.employee, .int .i64 y.period, .int .i64 y.line.kind, .string y.line.code, .int .i64 y.line.amount])) w = .ok (.bool false) w := by
  have u0 := Try.underlying3
  have a0 := Try.isAgg3
  have z0 := Try.sizeOf3
  have u1 := Try.underlying9
  have a1 := Try.isAgg9
  have z1 := Try.sizeOf9
  have hS : Try.prog.underlying 28 = some (.struct (Try.prog.fieldsOf 28)) := by kernel_rfl
  have hp : Try.prog.stoodInHeld 28 = false := by kernel_rfl
  rw [run_neq_struct, show (10000 : Nat) = 9999 + 1 from rfl, run_equalIn_agg w 9999 28 _ _ hS hp]
  simp only [Program.fieldsOf, Try.underlying28]
  have hS2 : Try.prog.underlying 26 = some (.struct (Try.prog.fieldsOf 26)) := by kernel_rfl
  have hp2 : Try.prog.stoodInHeld 26 = false := by kernel_rfl
  have hag := Try.isAgg26
  have hsz := Try.sizeOf26
  have hin := fun v v' => run_equalIn_agg (P := Try.prog) w 9998 26 v v' hS2 hp2
  simp only [Program.fieldsOf, Try.underlying26] at hin
  rw [show (9998 + 1 : Nat) = 9999 from rfl] at hin
  clear hS hS2 hp hp2
  go_simp

def bareB (k : Int) : Bool := k == 6 || k == 9 || k == 10
def codeB (x : LineT) : Bool := if bareB x.kind then decide (x.code.size = 0) else nameB x.code
def formB (x : LineT) : Bool := decide (1 ≤ x.kind) && decide (x.kind ≤ 10) && maxN x.amount && codeB x
def ltL (a b : Int × List UInt8) : Bool := decide (a.1 < b.1) || (decide (a.1 = b.1) && decide (a.2 < b.2))
/-- Lines as records: the title and the amount. -/
def RL : Rec LineT (Int × List UInt8) := ⟨fun x => (x.kind, x.code.data.toList), (·.amount), fun x n => ⟨x.kind, x.code, n⟩, ltL⟩
theorem ba_ext {a b : ByteArray} (h : a.data.toList = b.data.toList) : a = b := by
  obtain ⟨⟨l⟩⟩ := a
  obtain ⟨⟨m⟩⟩ := b
  simp at h
  rw [h]
theorem RL_law : RL.Law where
  key_set _ _ := rfl
  amt_set _ _ := rfl
  ext x y h1 h2 := by
    obtain ⟨a, b, c⟩ := x
    obtain ⟨a', b', c'⟩ := y
    simp only [RL, Prod.mk.injEq] at h1 h2
    obtain ⟨rfl, h1⟩ := h1
    rw [ba_ext h1, h2]
  irrefl a := by simp [RL, ltL, List.lt_irrefl]
  trans a b c h1 h2 := by
    simp only [RL, ltL, Bool.or_eq_true, Bool.and_eq_true, decide_eq_true_eq] at *
    rcases h1 with h1 | ⟨h1, h3⟩
    · rcases h2 with h2 | ⟨h2, h4⟩
      · left; omega
      · left; omega
    · rcases h2 with h2 | ⟨h2, h4⟩
      · left; omega
      · exact .inr ⟨by omega, List.lt_trans h3 h4⟩
  total a b h1 h2 := by
    simp only [RL, ltL, Bool.or_eq_false_iff, Bool.and_eq_false_iff, decide_eq_false_iff_not] at *
    have h3 : a.1 = b.1 := by omega
    have h4 : ¬ a.2 < b.2 := h1.2.resolve_left (fun h => h h3)
    have h5 : ¬ b.2 < a.2 := h2.2.resolve_left (fun h => h h3.symm)
    exact Prod.ext h3 (List.le_antisymm (List.not_lt.1 h5) (List.not_lt.1 h4))

set_option maxHeartbeats 1000000 in
theorem bare32_any (k : Int) (w : World) : Calls Try.prog 48 #[.int .i64 k] w fun e w' => e = .returned (.bool (bareB k)) ∧ w = w' := by
  rcases h1 : (k == 6) with _ | _ <;> rcases h2 : (k == 9) with _ | _ <;> rcases h3 : (k == 10) with _ | _
  all_goals
    have HB : Hid (bareB k = ((k == 6) || (k == 9) || (k == 10))) := rfl
    go_enter Try.func48, Try.ntmps48
    go_wp2
    go_ret
    exact ⟨by rw [HB.out, h1, h2, h3]; rfl, rfl⟩
set_option maxHeartbeats 1000000 in
theorem barep_any (k : Int) (w : World) : Calls Try.prog 94 #[.int .i64 k] w fun e w' => e = .returned (.bool (bareB k)) ∧ w = w' := by
  rcases h1 : (k == 6) with _ | _ <;> rcases h2 : (k == 9) with _ | _ <;> rcases h3 : (k == 10) with _ | _
  all_goals
    have HB : Hid (bareB k = ((k == 6) || (k == 9) || (k == 10))) := rfl
    go_enter Try.func94, Try.ntmps94
    go_wp2
    go_ret
    exact ⟨by rw [HB.out, h1, h2, h3]; rfl, rfl⟩
set_option maxHeartbeats 1000000 in
theorem isTotal_any (n : Int) (w : World) : Calls Try.prog 93 #[.int .i64 n] w fun e w' => e = .returned (.bool (maxN n)) ∧ w = w' := by
  by_cases h1 : -1000000000000 ≤ n <;> by_cases h2 : n ≤ 1000000000000
  all_goals
    have hb : maxN n = (decide (-1000000000000 ≤ n) && decide (n ≤ 1000000000000)) := by simp [maxN]
    have HB := Lib.hid hb; clear hb
    go_enter Try.func93, Try.ntmps93
    go_wp2
    go_ret
    exact ⟨by rw [HB.out]; simp [h1, h2], rfl⟩

end Go.Proofs.Ytbiajkknpkeeoaa
