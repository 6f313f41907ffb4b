/- Plain laws for LedgerDivides and LedgerCancels: totals decide what Merge hands back; totals by account. Conditions: as stated. -/
import Derived.Test.YtbiajkknpkeeoaaBk
namespace Go.Proofs.Ytbiajkknpkeeoaa
open Go.RowKit

theorem mErr_bd {l : List BookT} (hl : l.length ≤ 131072) (hok : ∀ x ∈ l, okB x = true) (ht : ∀ c, maxN (RB.tot l c) = true) : mErrB l = 0 := by
  rw [mErrB_4 (by omega) (List.all_eq_true.2 hok)]
  cases hh : overB (RB.sums l)
  · rfl
  · obtain ⟨c, _, hc2⟩ := (Rec.any_iff RB_law maxN (Rec.sums_sorted RB_law l)).1 hh
    rw [Rec.sums_tot RB_law, ht c] at hc2
    cases hc2
theorem mRB_mem {l : List BookT} (h : mErrB l = 0) (x : BookT) : x ∈ mRB l ↔ (RB.amt x = RB.tot l (RB.key x) ∧ RB.amt x ≠ 0) := by
  rw [mRB_ok h, List.mem_filter, Rec.mem_sorted RB_law (Rec.sums_sorted RB_law l), Rec.mem_nz, Rec.sums_has RB_law, Rec.sums_tot RB_law]
  constructor
  · rintro ⟨⟨_, h2⟩, h3⟩; exact ⟨h2, h3⟩
  · rintro ⟨h2, h3⟩; exact ⟨⟨Rec.has_of_tot (by rw [← h2]; exact h3), h2⟩, h3⟩
/-- Equal totals, equal results. -/
theorem mRB_ext {l m : List BookT} (hl : mErrB l = 0) (hm : mErrB m = 0) (h : ∀ c, RB.tot l c = RB.tot m c) : mRB l = mRB m := by
  refine Rec.sorted_ext RB_law (mRB_facts l).1 (mRB_facts m).1 fun x => ?_
  rw [mRB_mem hl, mRB_mem hm, h]
theorem mRB_tot {l : List BookT} (h : mErrB l = 0) (c : KeyB) : RB.tot (mRB l) c = RB.tot l c := by
  rw [mRB_ok h, Rec.tot_filter, Rec.sums_tot RB_law]

/-- The sum of the amounts on an account. -/
def accTot : List BookT → Int → Int
  | [], _ => 0
  | x :: l, a => (if x.account = a then x.amount else 0) + accTot l a
theorem accTot_append (l m : List BookT) (a : Int) : accTot (l ++ m) a = accTot l a + accTot m a := by
  induction l with
  | nil => simp [accTot]
  | cons x l ih => simp [accTot, ih]; omega
theorem accTot_put (l : List BookT) (e : BookT) (a : Int) : accTot (RB.put l e) a = accTot l a + (if e.account = a then e.amount else 0) := by
  induction l with
  | nil => simp [Rec.put, accTot]
  | cons x l ih =>
    rw [Rec.put]
    split
    · simp only [accTot, ih]; omega
    · split
      · rename_i h
        obtain ⟨h1, h2⟩ := (keyB_eq x e).1 h
        simp only [accTot, RB, h2]
        split <;> omega
      · simp only [accTot]; omega
theorem accTot_sums (l : List BookT) (a : Int) : accTot (RB.sums l) a = accTot l a := by
  have h : ∀ (l acc : List BookT), accTot (l.foldl RB.put acc) a = accTot acc a + accTot l a := by
    intro l
    induction l with
    | nil => intro acc; simp [accTot]
    | cons x l ih => intro acc; rw [List.foldl_cons, ih, accTot_put]; simp only [accTot]; omega
  have := h l []
  simpa [accTot, Rec.sums] using this
theorem accTot_filter (l : List BookT) (a : Int) : accTot (l.filter RB.nz) a = accTot l a := by
  induction l with
  | nil => rfl
  | cons x l ih =>
    rw [List.filter_cons]
    by_cases h : RB.nz x = true
    · rw [if_pos h]; simp only [accTot, ih]
    · rw [if_neg h]
      have h0 : x.amount = 0 := by simpa [Rec.nz, RB] using h
      simp only [accTot, ih, h0]
      split <;> omega
theorem mRB_acc {l : List BookT} (h : mErrB l = 0) (a : Int) : accTot (mRB l) a = accTot l a := by
  rw [mRB_ok h, accTot_filter, accTot_sums]
theorem zero_tot (l : List BookT) (c : KeyB) : RB.tot (l.map zeroRun) c = if c.1 = 0 ∧ c.2.2 = 0 then accTot l c.2.1 else 0 := by
  induction l with
  | nil => simp [Rec.tot, accTot]
  | cons x l ih =>
    have hk : RB.key (zeroRun x) = (0, x.account, 0) := rfl
    have ha : RB.amt (zeroRun x) = x.amount := rfl
    rw [List.map_cons, Rec.tot, ih, hk, ha]
    obtain ⟨c1, c2, c3⟩ := c
    simp only [accTot, Prod.mk.injEq]
    by_cases h : c1 = 0 ∧ c3 = 0
    · obtain ⟨rfl, rfl⟩ := h
      simp
    · rw [if_neg h, if_neg (by rintro ⟨h1, _, h3⟩; exact h ⟨h1.symm, h3.symm⟩), if_neg h]
      rfl
theorem accTot_bd (l : List BookT) (a B : Int) (hB : 0 ≤ B) (h : ∀ x ∈ l, -B ≤ x.amount ∧ x.amount ≤ B) : -(l.length * B : Int) ≤ accTot l a ∧ accTot l a ≤ l.length * B := by
  induction l with
  | nil => simp [accTot]
  | cons x l ih =>
    have h1 := ih (fun y hy => h y (by simp [hy]))
    have h2 := h x (by simp)
    simp only [accTot, List.length_cons]
    have e9 : ((l.length + 1 : Nat) : Int) * B = (l.length : Int) * B + B := by rw [Int.natCast_add, Int.add_mul]; simp
    rw [e9]
    split <;> omega
theorem okB_zero {x : BookT} (h : okB x = true) : okB (zeroRun x) = true := by
  rw [okB_iff] at h ⊢
  exact ⟨⟨by show (0 : Int) ≤ 0; omega, by show (0 : Int) ≤ 256; omega⟩, h.2.1, h.2.2⟩
/-- Entries of small amounts. -/
def SmallB (l : List BookT) : Prop := l.length ≤ 200 ∧ ∀ x ∈ l, okB x = true ∧ -600000 ≤ x.amount ∧ x.amount ≤ 600000
theorem maxN_of {n : Int} (h1 : -1000000000 ≤ n) (h2 : n ≤ 1000000000) : maxN n = true := by simp [maxN]; omega
theorem SmallB.tot {l : List BookT} (h : SmallB l) (c : KeyB) : -1000000000 ≤ RB.tot l c ∧ RB.tot l c ≤ 1000000000 := by
  have h1 := Rec.tot_bd (R := RB) l c 600000 (by omega) (fun x hx => (h.2 x hx).2)
  have h2 := h.1
  omega
theorem SmallB.acc {l : List BookT} (h : SmallB l) (a : Int) : -1000000000 ≤ accTot l a ∧ accTot l a ≤ 1000000000 := by
  have h1 := accTot_bd l a 600000 (by omega) (fun x hx => (h.2 x hx).2)
  have h2 := h.1
  omega
theorem SmallB.err {l : List BookT} (h : SmallB l) : mErrB l = 0 :=
  mErr_bd (by have := h.1; omega) (fun x hx => (h.2 x hx).1) (fun c => maxN_of (h.tot c).1 (h.tot c).2)
theorem SmallB.left {l m : List BookT} (h : SmallB (l ++ m)) : SmallB l := ⟨by have := h.1; simp at this; omega, fun x hx => h.2 x (by simp [hx])⟩
theorem SmallB.right {l m : List BookT} (h : SmallB (l ++ m)) : SmallB m := ⟨by have := h.1; simp at this; omega, fun x hx => h.2 x (by simp [hx])⟩
theorem mRB_len_le {l : List BookT} (h : mErrB l = 0) : (mRB l).length ≤ l.length := by
  rw [mRB_ok h]; exact Nat.le_trans (List.length_filter_le _ _) (Rec.sums_length l)

/-- Merging two merged halves is merging the whole. -/
theorem div_merge {X Y : List BookT} (h : SmallB (X ++ Y)) : mErrB (mRB Y ++ mRB X) = 0 ∧ mRB (mRB Y ++ mRB X) = mRB (X ++ Y) := by
  have hx := h.left.err
  have hy := h.right.err
  have ht : ∀ c, RB.tot (mRB Y ++ mRB X) c = RB.tot (X ++ Y) c := fun c => by
    rw [Rec.tot_append, Rec.tot_append, mRB_tot hx, mRB_tot hy]; omega
  have hE : mErrB (mRB Y ++ mRB X) = 0 := by
    refine mErr_bd ?_ (fun x hm => ?_) (fun c => by rw [ht]; exact maxN_of (h.tot c).1 (h.tot c).2)
    · have h1 := mRB_len_le hx; have h2 := mRB_len_le hy; have h3 := h.1
      simp at h3 ⊢; omega
    · rcases List.mem_append.1 hm with hm | hm
      · exact ((mRB_facts Y).2 x hm).1
      · exact ((mRB_facts X).2 x hm).1
  exact ⟨hE, mRB_ext hE h.err ht⟩
/-- The trial balance of lists whose account totals agree. -/
theorem trial_err {l : List BookT} (hl : l.length ≤ 131072) (hok : ∀ x ∈ l, okB x = true) (ha : ∀ a, -1000000000 ≤ accTot l a ∧ accTot l a ≤ 1000000000) : mErrB (l.map zeroRun) = 0 := by
  refine mErr_bd (by simpa using hl) (fun x hx => ?_) (fun c => ?_)
  · obtain ⟨y, hy, rfl⟩ := List.mem_map.1 hx
    exact okB_zero (hok y hy)
  · rw [zero_tot]
    split
    · exact maxN_of (ha _).1 (ha _).2
    · exact maxN_of (by omega) (by omega)
theorem trial_ext {l m : List BookT} (hl : mErrB (l.map zeroRun) = 0) (hm : mErrB (m.map zeroRun) = 0) (h : ∀ a, accTot l a = accTot m a) : mRB (l.map zeroRun) = mRB (m.map zeroRun) :=
  mRB_ext hl hm fun c => by rw [zero_tot, zero_tot, h]
theorem div_trial {X Y : List BookT} (h : SmallB (X ++ Y)) : mErrB ((mRB X ++ mRB Y).map zeroRun) = 0 ∧ mErrB ((mRB (X ++ Y)).map zeroRun) = 0 ∧ mRB ((mRB X ++ mRB Y).map zeroRun) = mRB ((mRB (X ++ Y)).map zeroRun) := by
  have hx := h.left.err
  have hy := h.right.err
  have ht : ∀ a, accTot (mRB X ++ mRB Y) a = accTot (X ++ Y) a := fun a => by
    rw [accTot_append, accTot_append, mRB_acc hx, mRB_acc hy]
  have h1 : mErrB ((mRB X ++ mRB Y).map zeroRun) = 0 := by
    refine trial_err ?_ (fun x hm => ?_) (fun a => by rw [ht]; exact h.acc a)
    · have h1 := mRB_len_le hx; have h2 := mRB_len_le hy; have h3 := h.1
      simp at h3 ⊢; omega
    · rcases List.mem_append.1 hm with hm | hm
      · exact ((mRB_facts X).2 x hm).1
      · exact ((mRB_facts Y).2 x hm).1
  have h2 : mErrB ((mRB (X ++ Y)).map zeroRun) = 0 := by
    refine trial_err (mRB_len _) (fun x hm => ((mRB_facts _).2 x hm).1) (fun a => by rw [mRB_acc h.err]; exact h.acc a)
  exact ⟨h1, h2, trial_ext h1 h2 fun a => by rw [ht, mRB_acc h.err]⟩

end Go.Proofs.Ytbiajkknpkeeoaa
