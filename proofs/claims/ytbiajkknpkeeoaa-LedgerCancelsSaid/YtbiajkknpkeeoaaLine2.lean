/- Contracts of payslip.formed, payslip.Form, payrollref32.Form and payrollref32.Less. Conditions: strings' lengths fit the model. -/
import Derived.Test.YtbiajkknpkeeoaaLine
namespace Go.Proofs.Ytbiajkknpkeeoaa
open Go.RowKit

theorem isEmpty_emp (s : ByteArray) (h : ¬ 0 < s.size) : s.toList.isEmpty = true := by rw [toList_emp s h]; rfl
theorem form_lo {x : LineT} (h : ¬ 1 ≤ x.kind) : formB x = false := by simp [formB, h]
theorem form_hi {x : LineT} (h : ¬ x.kind ≤ 10) : formB x = false := by simp [formB, h]
theorem form_am {x : LineT} (h : ¬ maxN x.amount = true) : formB x = false := by
  have : maxN x.amount = false := by simpa using h
  simp [formB, this]
theorem form_code {x : LineT} (h1 : 1 ≤ x.kind) (h2 : x.kind ≤ 10) (h3 : maxN x.amount = true) : formB x = codeB x := by simp [formB, h1, h2, h3]
theorem code_bare {x : LineT} (h : bareB x.kind = true) : codeB x = decide (x.code.size = 0) := by simp [codeB, h]
theorem code_name {x : LineT} (h : bareB x.kind = false) : codeB x = nameB x.code := by simp [codeB, h]

set_option maxHeartbeats 2000000 in
theorem formed_any (x : LineT) (w : World) (hz : x.code.size ≤ maxLen) :
    Calls Try.prog 91 #[.agg #[.int .i64 x.kind, .string x.code, .int .i64 x.amount]] w fun e w' => e = .returned (.bool (formB x)) ∧ Below w.heap.size w w' := by
  by_cases c0 : 1 ≤ x.kind
  · by_cases c1 : x.kind ≤ 10
    · by_cases c2 : maxN x.amount = true
      · have HF := Lib.hid (form_code c0 c1 c2)
        rcases hb : bareB x.kind with _ | _
        · have HC := Lib.hid (code_name hb)
          go_enter Try.func91, Try.ntmps91
          go_wp2_with (first | (go_at_call 93; refine (isTotal_any _ _).mono ?_; rintro e w' ⟨rfl, rfl⟩) | (go_at_call 94; refine (barep_any _ _).mono ?_; rintro e w' ⟨rfl, rfl⟩) | (go_at_call 50; refine (isName_any _ _ hz).mono ?_; rintro e w' ⟨rfl, rfl⟩))
          go_ret
          exact ⟨by rw [HF.out, HC.out]; rfl, below_new _ _⟩
        · have HC := Lib.hid (code_bare hb)
          by_cases hs : 0 < x.code.size
          · have e1 := toList_ne x.code hs
            have e2 := isEmpty_ne x.code hs
            go_enter Try.func91, Try.ntmps91
            go_wp2_with (first | (go_at_call 93; refine (isTotal_any _ _).mono ?_; rintro e w' ⟨rfl, rfl⟩) | (go_at_call 94; refine (barep_any _ _).mono ?_; rintro e w' ⟨rfl, rfl⟩))
            go_ret
            exact ⟨by rw [HF.out, HC.out, decide_eq_false (show ¬ x.code.size = 0 by omega)]; rfl, below_new _ _⟩
          · have e1 := toList_emp x.code hs
            have e2 := isEmpty_emp x.code hs
            have hs0 : Hid (x.code.size = 0) := by rw [Hid]; omega
            go_enter Try.func91, Try.ntmps91
            go_wp2_with (first | (go_at_call 93; refine (isTotal_any _ _).mono ?_; rintro e w' ⟨rfl, rfl⟩) | (go_at_call 94; refine (barep_any _ _).mono ?_; rintro e w' ⟨rfl, rfl⟩))
            go_ret
            exact ⟨by rw [HF.out, HC.out, decide_eq_true hs0.out]; rfl, below_new _ _⟩
      · have HF := Lib.hid (form_am c2)
        go_enter Try.func91, Try.ntmps91
        go_wp2_with (first | (go_at_call 93; refine (isTotal_any _ _).mono ?_; rintro e w' ⟨rfl, rfl⟩))
        go_ret
        exact ⟨by rw [HF.out]; rfl, below_new _ _⟩
    · have HF := Lib.hid (form_hi c1)
      go_enter Try.func91, Try.ntmps91
      go_wp2
      go_ret
      exact ⟨by rw [HF.out]; rfl, below_new _ _⟩
  · have HF := Lib.hid (form_lo c0)
    go_enter Try.func91, Try.ntmps91
    go_wp2
    go_ret
    exact ⟨by rw [HF.out]; rfl, below_new _ _⟩

set_option maxHeartbeats 2000000 in
theorem form32_any (x : LineT) (w : World) (hz : x.code.size ≤ maxLen) :
    Calls Try.prog 85 #[.agg #[.int .i64 x.kind, .string x.code, .int .i64 x.amount]] w fun e w' => e = .returned (.bool (formB x)) ∧ Below w.heap.size w w' := by
  by_cases c0 : 1 ≤ x.kind
  · by_cases c1 : x.kind ≤ 10
    · by_cases c2 : -1000000000000 ≤ x.amount
      · by_cases c3 : x.amount ≤ 1000000000000
        · have hm : maxN x.amount = true := by simp [maxN, c2, c3]
          have HF := Lib.hid (form_code c0 c1 hm)
          clear hm
          rcases hb : bareB x.kind with _ | _
          · have HC := Lib.hid (code_name hb)
            go_enter Try.func85, Try.ntmps85
            go_wp2_with (go_at_call 48; refine (bare32_any _ _).mono ?_; rintro e w' ⟨rfl, rfl⟩)
            refine (isName17_any _ _ hz).mono ?_
            rintro e w1 ⟨rfl, hb1⟩
            go_wp2
            go_ret
            exact ⟨by rw [HF.out, HC.out]; rfl, bel_adv (below_new _ _) hb1⟩
          · have HC := Lib.hid (code_bare hb)
            by_cases hs : 0 < x.code.size
            · have e1 := toList_ne x.code hs
              have e2 := isEmpty_ne x.code hs
              go_enter Try.func85, Try.ntmps85
              go_wp2_with (go_at_call 48; refine (bare32_any _ _).mono ?_; rintro e w' ⟨rfl, rfl⟩)
              go_ret
              exact ⟨by rw [HF.out, HC.out, decide_eq_false (show ¬ x.code.size = 0 by omega)]; rfl, below_new _ _⟩
            · have e1 := toList_emp x.code hs
              have e2 := isEmpty_emp x.code hs
              have hs0 : Hid (x.code.size = 0) := by rw [Hid]; omega
              go_enter Try.func85, Try.ntmps85
              go_wp2_with (go_at_call 48; refine (bare32_any _ _).mono ?_; rintro e w' ⟨rfl, rfl⟩)
              go_ret
              exact ⟨by rw [HF.out, HC.out, decide_eq_true hs0.out]; rfl, below_new _ _⟩
        · have HF := Lib.hid (form_am (x := x) (by simp [maxN, c3]))
          go_enter Try.func85, Try.ntmps85
          go_wp2
          go_ret
          exact ⟨by rw [HF.out]; rfl, below_new _ _⟩
      · have HF := Lib.hid (form_am (x := x) (by simp [maxN, c2]))
        go_enter Try.func85, Try.ntmps85
        go_wp2
        go_ret
        exact ⟨by rw [HF.out]; rfl, below_new _ _⟩
    · have HF := Lib.hid (form_hi c1)
      go_enter Try.func85, Try.ntmps85
      go_wp2
      go_ret
      exact ⟨by rw [HF.out]; rfl, below_new _ _⟩
  · have HF := Lib.hid (form_lo c0)
    go_enter Try.func85, Try.ntmps85
    go_wp2
    go_ret
    exact ⟨by rw [HF.out]; rfl, below_new _ _⟩

def lessL (x y : LineT) : Bool := RL.lt (RL.key x) (RL.key y)
theorem less_eqL : ∀ (x y : List UInt8), Op.bytesLess x y = decide (x < y)
  | [], [] => by simp [Op.bytesLess]
  | _ :: _, [] => by simp [Op.bytesLess]
  | [], _ :: _ => by simp [Op.bytesLess]
  | a :: x, b :: y => by
    rw [Op.bytesLess, less_eqL x y]
    simp only [List.cons_lt_cons_iff]
    by_cases h1 : a < b <;> by_cases h2 : a = b <;> by_cases h3 : x < y <;> simp [h1, h2, h3]
theorem lessL_eq (x y : LineT) : lessL x y = (decide (x.kind < y.kind) || (decide (x.kind = y.kind) && Op.bytesLess x.code.toList y.code.toList)) := by
  rw [less_eqL, ByteArray.toList_eq, ByteArray.toList_eq]; rfl

def formZ (x : LineT) : Bool := formB x && (x.amount != 0)
set_option maxHeartbeats 2000000 in
theorem formp_any (x : LineT) (w : World) (hz : x.code.size ≤ maxLen) :
    Calls Try.prog 82 #[.agg #[.int .i64 x.kind, .string x.code, .int .i64 x.amount]] w fun e w' => e = .returned (.bool (formZ x)) ∧ Below w.heap.size w w' := by
  have HZ : Hid (formZ x = (formB x && (x.amount != 0))) := rfl
  go_enter Try.func82, Try.ntmps82
  go_wp2_with fail
  refine (formed_any x _ hz).mono ?_
  rintro e w1 ⟨rfl, hb1⟩
  have hB := (Blk.new w _ _).adv hb1
  have z0 := hB.cell 0
  have z1 := hB.cell 1
  have z2 := hB.cell 2
  simp only [List.getElem?_toArray, List.getElem?_cons_zero, List.getElem?_cons_succ] at z0 z1 z2
  have hl := hB.lt
  have hbel := bel_adv (below_new w _) hb1
  clear hB hb1
  rcases hf : formB x with _ | _
  · go_wp2
    go_ret
    exact ⟨by rw [HZ.out, hf]; rfl, hbel⟩
  · go_wp2
    go_ret
    exact ⟨by rw [HZ.out, hf]; simp, hbel⟩

end Go.Proofs.Ytbiajkknpkeeoaa
