/- Plain laws on sums by code: no program in sight. Conditions: as stated. -/
import Derived.Test.YtlfefcfddpmccaaMapS
import Derived.Test.YtlfefcfddpmccaaRefOf
namespace Go.Proofs.Ytlfefcfddpmccaa
open Go.RowKit

def totE : List Elem → List UInt8 → Int
  | [], _ => 0
  | x :: l, c => (if x.code.data.toList = c then x.amount else 0) + totE l c
def keyE (l : List Elem) (c : List UInt8) : Bool := l.any fun x => decide (x.code.data.toList = c)

theorem code_ext {a b : ByteArray} (h : a.data.toList = b.data.toList) : a = b := key_inj (by simp [key, h])
theorem lessE_iff (x y : Elem) : lessE x y = true ↔ x.code.data.toList < y.code.data.toList := by
  rw [lessE, less_eq, ByteArray.toList_eq, ByteArray.toList_eq]; simp
theorem lessE_trans {x y z : Elem} (h1 : lessE x y = true) (h2 : lessE y z = true) : lessE x z = true := by
  rw [lessE_iff] at *; exact List.lt_trans h1 h2
theorem lessE_irrefl (x : Elem) : lessE x x = false := by
  cases h : lessE x x
  · rfl
  · rw [lessE_iff] at h; exact absurd h (List.lt_irrefl _)
def SortedE (l : List Elem) : Prop := l.Pairwise (fun a b => lessE a b = true)

theorem totE_append (l m : List Elem) (c : List UInt8) : totE (l ++ m) c = totE l c + totE m c := by
  induction l with
  | nil => simp [totE]
  | cons a l ih => simp [totE, ih]; omega
theorem keyE_append (l m : List Elem) (c : List UInt8) : keyE (l ++ m) c = (keyE l c || keyE m c) := by simp [keyE]
theorem totE_put (l : List Elem) (e : Elem) (c : List UInt8) : totE (put l e) c = totE l c + (if e.code.data.toList = c then e.amount else 0) := by
  induction l with
  | nil => simp [put, totE]
  | cons a l ih =>
    rw [put]
    split
    · simp only [totE, ih]; omega
    · split
      · rename_i h
        have h' : a.code.data.toList = e.code.data.toList := by
          rw [ByteArray.toList_eq, ByteArray.toList_eq] at h; simpa using h
        simp only [totE, h']
        split <;> omega
      · simp only [totE]; omega
theorem keyE_put (l : List Elem) (e : Elem) (c : List UInt8) : keyE (put l e) c = (keyE l c || decide (e.code.data.toList = c)) := by
  induction l with
  | nil => simp [put, keyE]
  | cons a l ih =>
    rw [put]
    unfold keyE at ih ⊢
    split
    · simp only [List.any_cons, ih, Bool.or_assoc]
    · split
      · rename_i h
        have h' : a.code.data.toList = e.code.data.toList := by
          rw [ByteArray.toList_eq, ByteArray.toList_eq] at h; simpa using h
        simp only [List.any_cons, h']
        cases decide (e.code.data.toList = c) <;> simp
      · simp only [List.any_cons]
        cases decide (e.code.data.toList = c) <;> simp
theorem sorted_put {l : List Elem} (h : SortedE l) (e : Elem) : SortedE (put l e) := by
  induction l with
  | nil => simp [put, SortedE]
  | cons a l ih =>
    obtain ⟨h1, h2⟩ := List.pairwise_cons.1 h
    rw [put]
    split
    · rename_i hae
      refine List.pairwise_cons.2 ⟨fun x hx => ?_, ih h2⟩
      rcases put_codes l e x hx with hc | ⟨y, hy, hc⟩
      · rw [lessE_iff, hc, ← lessE_iff]; exact hae
      · rw [lessE_iff, ← hc, ← lessE_iff]; exact h1 y hy
    · rename_i hae
      split
      · rename_i hc
        have hc' : e.code = a.code := by
          apply code_ext
          rw [ByteArray.toList_eq, ByteArray.toList_eq] at hc
          exact (by simpa using hc : a.code.data.toList = e.code.data.toList).symm
        refine List.pairwise_cons.2 ⟨fun x hx => ?_, h2⟩
        rw [lessE_iff]
        show e.code.data.toList < _
        rw [hc', ← lessE_iff]
        exact h1 x hx
      · rename_i hc
        have hea : lessE e a = true := by
          rw [lessE_iff] at hae ⊢
          rw [ByteArray.toList_eq, ByteArray.toList_eq] at hc
          have hne : ¬ a.code.data.toList = e.code.data.toList := by simpa using hc
          exact Decidable.byContradiction fun h => hne (List.le_antisymm (List.not_lt.1 h) (List.not_lt.1 hae))
        refine List.pairwise_cons.2 ⟨fun x hx => ?_, h⟩
        rcases List.mem_cons.1 hx with rfl | hx
        · exact hea
        · exact lessE_trans hea (h1 x hx)
theorem foldl_facts (l : List Elem) : ∀ acc, SortedE acc → SortedE (l.foldl put acc) ∧ (∀ c, totE (l.foldl put acc) c = totE acc c + totE l c) ∧ ∀ c, keyE (l.foldl put acc) c = (keyE acc c || keyE l c) := by
  induction l with
  | nil => intro acc h; exact ⟨h, fun c => by simp [totE], fun c => by simp [keyE]⟩
  | cons a l ih =>
    intro acc h
    obtain ⟨h1, h2, h3⟩ := ih (put acc a) (sorted_put h a)
    refine ⟨h1, fun c => ?_, fun c => ?_⟩
    · rw [List.foldl_cons, h2, totE_put]; simp only [totE]; omega
    · rw [List.foldl_cons, h3, keyE_put]
      simp only [keyE, List.any_cons, Bool.or_assoc]
theorem sumsP_sorted (l : List Elem) : SortedE (sumsP l) := (foldl_facts l [] List.Pairwise.nil).1
theorem sumsP_tot (l : List Elem) (c : List UInt8) : totE (sumsP l) c = totE l c := by
  have := (foldl_facts l [] List.Pairwise.nil).2.1 c
  simpa [totE, sumsP] using this
theorem sumsP_key (l : List Elem) (c : List UInt8) : keyE (sumsP l) c = keyE l c := by
  have := (foldl_facts l [] List.Pairwise.nil).2.2 c
  simpa [keyE, sumsP] using this
theorem tot_out {l : List Elem} {c : List UInt8} (h : ∀ x ∈ l, x.code.data.toList ≠ c) : totE l c = 0 := by
  induction l with
  | nil => rfl
  | cons a l ih => simp only [totE, if_neg (h a (by simp))]; rw [ih (fun x hx => h x (by simp [hx]))]; rfl
theorem mem_sorted {l : List Elem} (h : SortedE l) (x : Elem) : x ∈ l ↔ (keyE l x.code.data.toList = true ∧ x.amount = totE l x.code.data.toList) := by
  induction l with
  | nil => simp [keyE]
  | cons a l ih =>
    obtain ⟨h1, h2⟩ := List.pairwise_cons.1 h
    have ih := ih h2
    have hout : ∀ y ∈ l, y.code.data.toList ≠ a.code.data.toList := by
      intro y hy e
      have := h1 y hy
      rw [lessE_iff, e] at this
      exact List.lt_irrefl _ this
    by_cases hc : a.code.data.toList = x.code.data.toList
    · have ht : totE l x.code.data.toList = 0 := by rw [← hc]; exact tot_out hout
      simp only [keyE, List.any_cons, totE, hc, decide_true, Bool.true_or, if_true, ht, true_and, List.mem_cons]
      constructor
      · rintro (rfl | hx)
        · omega
        · exact absurd hc.symm (hout x hx)
      · intro hx
        left
        obtain ⟨c1, n1⟩ := x
        obtain ⟨c2, n2⟩ := a
        have := code_ext hc
        simp only at this hx
        subst this
        congr; omega
    · have hne : x ≠ a := by rintro rfl; exact hc rfl
      simp only [keyE, List.any_cons, totE, hc, decide_false, Bool.false_or, if_false, Int.zero_add, List.mem_cons, hne, false_or]
      exact ih
theorem sorted_ext : ∀ {l m : List Elem}, SortedE l → SortedE m → (∀ x, x ∈ l ↔ x ∈ m) → l = m
  | [], [], _, _, _ => rfl
  | [], b :: s, _, _, h => by have := (h b).2 (by simp); simp at this
  | a :: r, [], _, _, h => by have := (h a).1 (by simp); simp at this
  | a :: r, b :: s, h1, h2, h => by
    obtain ⟨a1, a2⟩ := List.pairwise_cons.1 h1
    obtain ⟨b1, b2⟩ := List.pairwise_cons.1 h2
    have irr : ∀ x : Elem, ¬ lessE x x = true := fun x hx => by rw [lessE_irrefl] at hx; cases hx
    have hab : a = b := by
      rcases List.mem_cons.1 ((h a).1 (by simp)) with e | ha
      · exact e
      · rcases List.mem_cons.1 ((h b).2 (by simp)) with e | hb
        · exact e.symm
        · exact absurd (lessE_trans (a1 b hb) (b1 a ha)) (irr _)
    subst hab
    rw [sorted_ext a2 b2 (fun p => ⟨fun hp => by
      rcases List.mem_cons.1 ((h p).1 (by simp [hp])) with e | hp'
      · subst e; exact absurd (a1 _ hp) (irr _)
      · exact hp', fun hp => by
      rcases List.mem_cons.1 ((h p).2 (by simp [hp])) with e | hp'
      · subst e; exact absurd (b1 _ hp) (irr _)
      · exact hp'⟩)]

/-- The sorted list of the sums of l that are not 0 is the merged list. -/
theorem merged_eq {l ys : List Elem} (h : SortedE ys) (hm : ∀ x : Elem, x ∈ ys ↔ (keyE l x.code.data.toList = true ∧ x.amount = totE l x.code.data.toList ∧ x.amount ≠ 0)) : ys = (sumsP l).filter nz := by
  refine sorted_ext h ((sumsP_sorted l).filter _) fun x => ?_
  rw [hm, List.mem_filter, mem_sorted (sumsP_sorted l), sumsP_key, sumsP_tot]
  simp [nz, and_assoc]
theorem over_iff (l : List Elem) : (sumsP l).any (fun x => !amtB x.amount) = true ↔ ∃ c, keyE l c = true ∧ amtB (totE l c) = false := by
  rw [List.any_eq_true]
  constructor
  · rintro ⟨x, hx, h⟩
    rw [mem_sorted (sumsP_sorted l), sumsP_key, sumsP_tot] at hx
    exact ⟨_, hx.1, by rw [← hx.2]; simpa using h⟩
  · rintro ⟨c, hc, h⟩
    obtain ⟨x, hx, he⟩ := List.any_eq_true.1 hc
    have he' : x.code.data.toList = c := by simpa using he
    refine ⟨⟨x.code, totE l c⟩, ?_, by simp [h]⟩
    rw [mem_sorted (sumsP_sorted l), sumsP_key, sumsP_tot]
    exact ⟨by show keyE l x.code.data.toList = true; rw [he']; exact hc, by show totE l c = totE l x.code.data.toList; rw [he']⟩

end Go.Proofs.Ytlfefcfddpmccaa
