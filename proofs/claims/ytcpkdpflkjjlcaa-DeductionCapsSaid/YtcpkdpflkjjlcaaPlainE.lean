/- Plain laws on elements: put, sums by code, sorted lists; and a few words for memory. Conditions: as stated. -/
import Derived.Test.YtcpkdpflkjjlcaaPut
namespace Go.Proofs.Ytcpkdpflkjjlcaa
open Go.RowKit

def sumsP (l : List Elem) : List Elem := l.foldl put []
def nz (x : Elem) : Bool := x.amount != 0
theorem sumsP_snoc (l : List Elem) (x : Elem) : sumsP (l ++ [x]) = put (sumsP l) x := by simp [sumsP, List.foldl_append]
def Bdd (B : Int) (l : List Elem) : Prop := ∀ x ∈ l, -B ≤ x.amount ∧ x.amount ≤ B
theorem Bdd.put {B C : Int} {l : List Elem} {e : Elem} (h : Bdd B l) (hB : 0 ≤ B) (hC : 0 ≤ C) (h1 : -C ≤ e.amount) (h2 : e.amount ≤ C) : Bdd (B + C) (put l e) := by
  induction l with
  | nil => intro x hx; simp [Go.Proofs.Ytcpkdpflkjjlcaa.put] at hx; subst hx; omega
  | cons a l ih =>
    have ha := h a (by simp)
    have hl : Bdd B l := fun x hx => h x (by simp [hx])
    intro x hx
    rw [Go.Proofs.Ytcpkdpflkjjlcaa.put] at hx
    split at hx
    · rcases List.mem_cons.1 hx with rfl | hx
      · omega
      · exact ih hl x hx
    · split at hx
      · rcases List.mem_cons.1 hx with rfl | hx
        · show -(B + C) ≤ e.amount + a.amount ∧ e.amount + a.amount ≤ B + C
          omega
        · have := hl x hx; omega
      · rcases List.mem_cons.1 hx with rfl | hx
        · omega
        · have := h x hx; omega
theorem put_length (l : List Elem) (e : Elem) : (put l e).length ≤ l.length + 1 := by
  induction l with
  | nil => simp [put]
  | cons a l ih =>
    rw [put]
    split
    · simp; omega
    · split <;> simp
theorem foldl_put_length (l : List Elem) : ∀ acc : List Elem, (l.foldl put acc).length ≤ acc.length + l.length := by
  induction l with
  | nil => intro acc; simp
  | cons a l ih => intro acc; have h1 := ih (put acc a); have h2 := put_length acc a; simp; omega
theorem sumsP_length (l : List Elem) : (sumsP l).length ≤ l.length := by
  have := foldl_put_length l []
  simpa [sumsP] using this
theorem put_codes (l : List Elem) (e : Elem) : ∀ x ∈ put l e, x.code = e.code ∨ ∃ y ∈ l, y.code = x.code := by
  induction l with
  | nil => intro x hx; simp [put] at hx; subst hx; exact .inl rfl
  | cons a l ih =>
    intro x hx
    rw [put] at hx
    split at hx
    · rcases List.mem_cons.1 hx with rfl | hx
      · exact .inr ⟨_, by simp, rfl⟩
      · rcases ih x hx with h | ⟨y, hy, h⟩
        · exact .inl h
        · exact .inr ⟨y, by simp [hy], h⟩
    · split at hx
      · rcases List.mem_cons.1 hx with rfl | hx
        · exact .inl rfl
        · exact .inr ⟨x, by simp [hx], rfl⟩
      · rcases List.mem_cons.1 hx with rfl | hx
        · exact .inl rfl
        · exact .inr ⟨x, hx, rfl⟩
theorem foldl_codes (l : List Elem) : ∀ acc, ∀ x ∈ l.foldl put acc, (∃ y ∈ l, y.code = x.code) ∨ ∃ y ∈ acc, y.code = x.code := by
  induction l with
  | nil => intro acc x hx; exact .inr ⟨x, hx, rfl⟩
  | cons a l ih =>
    intro acc x hx
    rcases ih (put acc a) x hx with ⟨y, hy, h⟩ | ⟨y, hy, h⟩
    · exact .inl ⟨y, by simp [hy], h⟩
    · rcases put_codes acc a y hy with h1 | ⟨z, hz, h1⟩
      · exact .inl ⟨a, by simp, by rw [← h, h1]⟩
      · exact .inr ⟨z, hz, by rw [h1, h]⟩
theorem sumsP_codes {l : List Elem} {x : Elem} (hx : x ∈ sumsP l) : ∃ y ∈ l, y.code = x.code := by
  rcases foldl_codes l [] x hx with h | ⟨y, hy, _⟩
  · exact h
  · simp at hy
theorem sumsP_size {l : List Elem} (h : ∀ x ∈ l, x.code.size ≤ maxLen) (x : Elem) (hx : x ∈ sumsP l) : x.code.size ≤ maxLen := by
  obtain ⟨y, hy, e⟩ := sumsP_codes hx
  rw [← e]; exact h y hy
theorem less_eq : ∀ (x y : List UInt8), Op.bytesLess x y = decide (x < y)
  | [], [] => by simp [Op.bytesLess]
  | _ :: _, [] => by simp [Op.bytesLess]
  | [], _ :: _ => by simp [Op.bytesLess]
  | a :: x, b :: y => by
    rw [Op.bytesLess, less_eq x y]
    simp only [List.cons_lt_cons_iff]
    by_cases h1 : a < b <;> by_cases h2 : a = b <;> by_cases h3 : x < y <;> simp [h1, h2, h3]
def key (c : ByteArray) : Lit := .string c.data.toList
theorem key_inj {a b : ByteArray} (h : key a = key b) : a = b := by
  obtain ⟨⟨l⟩⟩ := a
  obtain ⟨⟨m⟩⟩ := b
  simp [key] at h
  rw [h]
theorem strict_of {zs : List Elem} (h1 : zs.Pairwise (fun a b => lessE b a = false)) (h2 : zs.Pairwise (fun a b => a.code ≠ b.code)) : zs.Pairwise (fun a b => lessE a b = true) := by
  refine (h1.and h2).imp ?_
  rintro a b ⟨hab, hne⟩
  rw [lessE, less_eq] at hab ⊢
  simp only [decide_eq_false_iff_not, List.not_lt, decide_eq_true_eq] at hab ⊢
  have hne' : a.code.toList ≠ b.code.toList := by
    intro e
    apply hne
    rw [ByteArray.toList_eq, ByteArray.toList_eq] at e
    exact key_inj (by simp [key, e])
  exact Decidable.byContradiction fun h => hne' (List.le_antisymm hab (List.not_lt.1 h))
def totE : List Elem → List UInt8 → Int
  | [], _ => 0
  | x :: l, c => (if x.code.data.toList = c then x.amount else 0) + totE l c
def keyE (l : List Elem) (c : List UInt8) : Bool := l.any fun x => decide (x.code.data.toList = c)
theorem code_ext {a b : ByteArray} (h : a.data.toList = b.data.toList) : a = b := key_inj (by simp [key, h])
theorem lessE_iff (x y : Elem) : lessE x y = true ↔ x.code.data.toList < y.code.data.toList := by
  rw [lessE, less_eq, ByteArray.toList_eq, ByteArray.toList_eq]; simp
theorem lessE_trans {x y z : Elem} (h1 : lessE x y = true) (h2 : lessE y z = true) : lessE x z = true := by
  rw [lessE_iff] at *; exact List.lt_trans h1 h2
theorem lessE_irrefl (x : Elem) : lessE x x = false := by
  cases h : lessE x x
  · rfl
  · rw [lessE_iff] at h; exact absurd h (List.lt_irrefl _)
def SortedE (l : List Elem) : Prop := l.Pairwise (fun a b => lessE a b = true)
theorem totE_append (l m : List Elem) (c : List UInt8) : totE (l ++ m) c = totE l c + totE m c := by
  induction l with
  | nil => simp [totE]
  | cons a l ih => simp [totE, ih]; omega
theorem keyE_append (l m : List Elem) (c : List UInt8) : keyE (l ++ m) c = (keyE l c || keyE m c) := by simp [keyE]
theorem totE_put (l : List Elem) (e : Elem) (c : List UInt8) : totE (put l e) c = totE l c + (if e.code.data.toList = c then e.amount else 0) := by
  induction l with
  | nil => simp [put, totE]
  | cons a l ih =>
    rw [put]
    split
    · simp only [totE, ih]; omega
    · split
      · rename_i h
        have h' : a.code.data.toList = e.code.data.toList := by
          rw [ByteArray.toList_eq, ByteArray.toList_eq] at h; simpa using h
        simp only [totE, h']
        split <;> omega
      · simp only [totE]; omega
theorem keyE_put (l : List Elem) (e : Elem) (c : List UInt8) : keyE (put l e) c = (keyE l c || decide (e.code.data.toList = c)) := by
  induction l with
  | nil => simp [put, keyE]
  | cons a l ih =>
    rw [put]
    unfold keyE at ih ⊢
    split
    · simp only [List.any_cons, ih, Bool.or_assoc]
    · split
      · rename_i h
        have h' : a.code.data.toList = e.code.data.toList := by
          rw [ByteArray.toList_eq, ByteArray.toList_eq] at h; simpa using h
        simp only [List.any_cons, h']
        cases decide (e.code.data.toList = c) <;> simp
      · simp only [List.any_cons]
        cases decide (e.code.data.toList = c) <;> simp
theorem sorted_put {l : List Elem} (h : SortedE l) (e : Elem) : SortedE (put l e) := by
  induction l with
  | nil => simp [put, SortedE]
  | cons a l ih =>
    obtain ⟨h1, h2⟩ := List.pairwise_cons.1 h
    rw [put]
    split
    · rename_i hae
      refine List.pairwise_cons.2 ⟨fun x hx => ?_, ih h2⟩
      rcases put_codes l e x hx with hc | ⟨y, hy, hc⟩
      · rw [lessE_iff, hc, ← lessE_iff]; exact hae
      · rw [lessE_iff, ← hc, ← lessE_iff]; exact h1 y hy
    · rename_i hae
      split
      · rename_i hc
        have hc' : e.code = a.code := by
          apply code_ext
          rw [ByteArray.toList_eq, ByteArray.toList_eq] at hc
          exact (by simpa using hc : a.code.data.toList = e.code.data.toList).symm
        refine List.pairwise_cons.2 ⟨fun x hx => ?_, h2⟩
        rw [lessE_iff]
        show e.code.data.toList < _
        rw [hc', ← lessE_iff]
        exact h1 x hx
      · rename_i hc
        have hea : lessE e a = true := by
          rw [lessE_iff] at hae ⊢
          rw [ByteArray.toList_eq, ByteArray.toList_eq] at hc
          have hne : ¬ a.code.data.toList = e.code.data.toList := by simpa using hc
          exact Decidable.byContradiction fun h => hne (List.le_antisymm (List.not_lt.1 h) (List.not_lt.1 hae))
        refine List.pairwise_cons.2 ⟨fun x hx => ?_, h⟩
        rcases List.mem_cons.1 hx with rfl | hx
        · exact hea
        · exact lessE_trans hea (h1 x hx)
theorem foldl_facts (l : List Elem) : ∀ acc, SortedE acc → SortedE (l.foldl put acc) ∧ (∀ c, totE (l.foldl put acc) c = totE acc c + totE l c) ∧ ∀ c, keyE (l.foldl put acc) c = (keyE acc c || keyE l c) := by
  induction l with
  | nil => intro acc h; exact ⟨h, fun c => by simp [totE], fun c => by simp [keyE]⟩
  | cons a l ih =>
    intro acc h
    obtain ⟨h1, h2, h3⟩ := ih (put acc a) (sorted_put h a)
    refine ⟨h1, fun c => ?_, fun c => ?_⟩
    · rw [List.foldl_cons, h2, totE_put]; simp only [totE]; omega
    · rw [List.foldl_cons, h3, keyE_put]
      simp only [keyE, List.any_cons, Bool.or_assoc]
theorem sumsP_sorted (l : List Elem) : SortedE (sumsP l) := (foldl_facts l [] List.Pairwise.nil).1
theorem sumsP_tot (l : List Elem) (c : List UInt8) : totE (sumsP l) c = totE l c := by
  have := (foldl_facts l [] List.Pairwise.nil).2.1 c
  simpa [totE, sumsP] using this
theorem sumsP_key (l : List Elem) (c : List UInt8) : keyE (sumsP l) c = keyE l c := by
  have := (foldl_facts l [] List.Pairwise.nil).2.2 c
  simpa [keyE, sumsP] using this
theorem tot_out {l : List Elem} {c : List UInt8} (h : ∀ x ∈ l, x.code.data.toList ≠ c) : totE l c = 0 := by
  induction l with
  | nil => rfl
  | cons a l ih => simp only [totE, if_neg (h a (by simp))]; rw [ih (fun x hx => h x (by simp [hx]))]; rfl
theorem mem_sorted {l : List Elem} (h : SortedE l) (x : Elem) : x ∈ l ↔ (keyE l x.code.data.toList = true ∧ x.amount = totE l x.code.data.toList) := by
  induction l with
  | nil => simp [keyE]
  | cons a l ih =>
    obtain ⟨h1, h2⟩ := List.pairwise_cons.1 h
    have ih := ih h2
    have hout : ∀ y ∈ l, y.code.data.toList ≠ a.code.data.toList := by
      intro y hy e
      have := h1 y hy
      rw [lessE_iff, e] at this
      exact List.lt_irrefl _ this
    by_cases hc : a.code.data.toList = x.code.data.toList
    · have ht : totE l x.code.data.toList = 0 := by rw [← hc]; exact tot_out hout
      simp only [keyE, List.any_cons, totE, hc, decide_true, Bool.true_or, if_true, ht, true_and, List.mem_cons]
      constructor
      · rintro (rfl | hx)
        · omega
        · exact absurd hc.symm (hout x hx)
      · intro hx
        left
        obtain ⟨c1, n1⟩ := x
        obtain ⟨c2, n2⟩ := a
        have := code_ext hc
        simp only at this hx
        subst this
        congr; omega
    · have hne : x ≠ a := by rintro rfl; exact hc rfl
      simp only [keyE, List.any_cons, totE, hc, decide_false, Bool.false_or, if_false, Int.zero_add, List.mem_cons, hne, false_or]
      exact ih
theorem sorted_ext : ∀ {l m : List Elem}, SortedE l → SortedE m → (∀ x, x ∈ l ↔ x ∈ m) → l = m
  | [], [], _, _, _ => rfl
  | [], b :: s, _, _, h => by have := (h b).2 (by simp); simp at this
  | a :: r, [], _, _, h => by have := (h a).1 (by simp); simp at this
  | a :: r, b :: s, h1, h2, h => by
    obtain ⟨a1, a2⟩ := List.pairwise_cons.1 h1
    obtain ⟨b1, b2⟩ := List.pairwise_cons.1 h2
    have irr : ∀ x : Elem, ¬ lessE x x = true := fun x hx => by rw [lessE_irrefl] at hx; cases hx
    have hab : a = b := by
      rcases List.mem_cons.1 ((h a).1 (by simp)) with e | ha
      · exact e
      · rcases List.mem_cons.1 ((h b).2 (by simp)) with e | hb
        · exact e.symm
        · exact absurd (lessE_trans (a1 b hb) (b1 a ha)) (irr _)
    subst hab
    rw [sorted_ext a2 b2 (fun p => ⟨fun hp => by
      rcases List.mem_cons.1 ((h p).1 (by simp [hp])) with e | hp'
      · subst e; exact absurd (a1 _ hp) (irr _)
      · exact hp', fun hp => by
      rcases List.mem_cons.1 ((h p).2 (by simp [hp])) with e | hp'
      · subst e; exact absurd (b1 _ hp) (irr _)
      · exact hp'⟩)]
/-- The sorted list of the sums of l that are not 0 is the merged list. -/
theorem merged_eq {l ys : List Elem} (h : SortedE ys) (hm : ∀ x : Elem, x ∈ ys ↔ (keyE l x.code.data.toList = true ∧ x.amount = totE l x.code.data.toList ∧ x.amount ≠ 0)) : ys = (sumsP l).filter nz := by
  refine sorted_ext h ((sumsP_sorted l).filter _) fun x => ?_
  rw [hm, List.mem_filter, mem_sorted (sumsP_sorted l), sumsP_key, sumsP_tot]
  simp [nz, and_assoc]

end Go.Proofs.Ytcpkdpflkjjlcaa
