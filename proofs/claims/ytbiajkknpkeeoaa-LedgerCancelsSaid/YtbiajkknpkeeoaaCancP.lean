/- Plain laws for LedgerCancels: a run and its undoing leave nothing on the accounts. Conditions: as stated. -/
import Derived.Test.YtbiajkknpkeeoaaBookOk
import Derived.Test.YtbiajkknpkeeoaaUndo
namespace Go.Proofs.Ytbiajkknpkeeoaa
open Go.RowKit

theorem formB_neg {x : LineT} (h : formB x = true) : formB ⟨x.kind, x.code, -x.amount⟩ = true := by
  have h1 : maxN (-x.amount) = maxN x.amount := by simp only [maxN]; rw [decide_eq_decide]; omega
  simp only [formB, h1]
  exact h
theorem LineOk.neg {x : LineT} (h : LineOk x) : LineOk ⟨x.kind, x.code, -x.amount⟩ :=
  ⟨formB_neg h.form, by have := h.hi; show -600000 ≤ -x.amount; omega, by have := h.lo; show -x.amount ≤ 600000; omega, by have := h.nz; show -x.amount ≠ 0; omega, h.code, h.mem⟩
theorem BookOk.undo {ys : List PostT} (h : BookOk 10 ys) (r : Int) : BookOk 50 (ys ++ undoL r 50 ys) := by
  have hu : ∀ x ∈ undoL r 50 ys, x.run = 50 ∧ (1 ≤ x.employee ∧ x.employee ≤ 3) ∧ (0 ≤ x.period ∧ x.period ≤ 2) ∧ LineOk x.line := by
    intro x hx
    obtain ⟨y, hy, rfl⟩ := List.mem_map.1 hx
    obtain ⟨_, a, b, c⟩ := h.ok y (List.mem_filter.1 hy).1
    exact ⟨rfl, a, b, c.neg⟩
  refine ⟨fun x hx => ?_, ?_⟩
  · rcases List.mem_append.1 hx with h1 | h1
    · obtain ⟨⟨a, b⟩, c⟩ := h.ok x h1
      exact ⟨⟨a, by omega⟩, c⟩
    · obtain ⟨a, b⟩ := hu x h1
      exact ⟨⟨by omega, by omega⟩, b⟩
  · rw [List.pairwise_append]
    refine ⟨h.asc, List.pairwise_of_forall_mem_list fun a ha b hb => ?_, fun a ha b hb => ?_⟩
    · have := (hu a ha).1; have := (hu b hb).1; omega
    · have := (h.ok a ha).1.2; have := (hu b hb).1; omega
theorem acc_back (ws : List WageT) (n : Int) (p : PostT) (a : Int) : accTot (entOf ws (back n p)) a = -accTot (entOf ws p) a := by
  unfold entOf back
  simp only
  split
  · split
    · simp only [accTot]; split <;> omega
    · simp [accTot]
  · unfold entsK
    repeat' split
    all_goals
      simp only [accTot]
      repeat' split
      all_goals omega
theorem acc_all (ws : List WageT) (x : PostT) (l : List PostT) (a : Int) : accTot (entAll ws (x :: l)) a = accTot (entOf ws x) a + accTot (entAll ws l) a := by
  rw [entAll, List.flatMap_cons, accTot_append]; rfl
theorem acc_undo (ws : List WageT) (r n : Int) (l : List PostT) (a : Int) : accTot (entAll ws l) a + accTot (entAll ws (undoL r n l)) a = accTot (entAll ws (l.filter fun x => !decide (x.run = r))) a := by
  induction l with
  | nil => rfl
  | cons x l ih =>
    by_cases hr : x.run = r
    · have e1 : undoL r n (x :: l) = back n x :: undoL r n l := by simp [undoL, hr]
      rw [e1, acc_all, acc_all, acc_back, List.filter_cons, if_neg (by simp [hr]), ← ih]; omega
    · have e1 : undoL r n (x :: l) = undoL r n l := by simp [undoL, hr]
      rw [e1, acc_all, List.filter_cons, if_pos (by simp [hr]), acc_all, ← ih]; omega
theorem undo_len (r n : Int) (l : List PostT) : (undoL r n l).length ≤ l.length := by
  rw [undoL, List.length_map]; exact List.length_filter_le _ _
/-- The two trial balances. -/
theorem canc_trial {ys : List PostT} (h : BookOk 10 ys) (hl : ys.length ≤ 20) (r : Int) :
    mErrB ((mRB (entAll wages8 (ys ++ undoL r 50 ys))).map zeroRun) = 0 ∧ mErrB ((mRB (entAll wages8 (ys.filter fun x => !decide (x.run = r)))).map zeroRun) = 0 ∧
      mRB ((mRB (entAll wages8 (ys ++ undoL r 50 ys))).map zeroRun) = mRB ((mRB (entAll wages8 (ys.filter fun x => !decide (x.run = r)))).map zeroRun) := by
  have hlu := undo_len r 50 ys
  have hs1 := (h.undo r).small (by omega) (by simp; omega)
  have hs2 := (h.sub (List.filter_sublist (p := fun x => !decide (x.run = r)))).small (by omega) (Nat.le_trans (List.length_filter_le _ _) (by omega))
  have h1 : mErrB ((mRB (entAll wages8 (ys ++ undoL r 50 ys))).map zeroRun) = 0 :=
    trial_err (mRB_len _) (fun x hm => ((mRB_facts _).2 x hm).1) (fun a => by rw [mRB_acc hs1.err]; exact hs1.acc a)
  have h2 : mErrB ((mRB (entAll wages8 (ys.filter fun x => !decide (x.run = r)))).map zeroRun) = 0 :=
    trial_err (mRB_len _) (fun x hm => ((mRB_facts _).2 x hm).1) (fun a => by rw [mRB_acc hs2.err]; exact hs2.acc a)
  refine ⟨h1, h2, trial_ext h1 h2 fun a => ?_⟩
  rw [mRB_acc hs1.err, mRB_acc hs2.err, ← acc_undo wages8 r 50 ys a, entAll, List.flatMap_append, accTot_append]
  rfl

end Go.Proofs.Ytbiajkknpkeeoaa
