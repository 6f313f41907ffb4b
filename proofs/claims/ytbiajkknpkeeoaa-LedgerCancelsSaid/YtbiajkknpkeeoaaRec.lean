/- Plain laws on records with a key and an amount: lists sorted by key, adding an amount to a key, sums by key. No program in sight. Conditions: as stated. -/
import Derived.Below
namespace Go.Proofs.Ytbiajkknpkeeoaa

/-- Records with a key and an amount. -/
structure Rec (α κ : Type) where
  key : α → κ
  amt : α → Int
  set : α → Int → α
  lt : κ → κ → Bool
structure Rec.Law {α κ : Type} (R : Rec α κ) : Prop where
  key_set : ∀ x n, R.key (R.set x n) = R.key x
  amt_set : ∀ x n, R.amt (R.set x n) = n
  ext : ∀ x y, R.key x = R.key y → R.amt x = R.amt y → x = y
  irrefl : ∀ a, R.lt a a = false
  trans : ∀ a b c, R.lt a b = true → R.lt b c = true → R.lt a c = true
  total : ∀ a b, R.lt a b = false → R.lt b a = false → a = b

section
variable {α κ : Type} [DecidableEq κ] (R : Rec α κ)
def Rec.put : List α → α → List α
  | [], e => [e]
  | a :: l, e => if R.lt (R.key a) (R.key e) then a :: Rec.put l e else if R.key a = R.key e then R.set e (R.amt e + R.amt a) :: l else e :: a :: l
def Rec.tot : List α → κ → Int
  | [], _ => 0
  | x :: l, c => (if R.key x = c then R.amt x else 0) + Rec.tot l c
def Rec.has (l : List α) (c : κ) : Bool := l.any fun x => decide (R.key x = c)
def Rec.Sorted (l : List α) : Prop := l.Pairwise (fun a b => R.lt (R.key a) (R.key b) = true)
def Rec.nz (x : α) : Bool := R.amt x != 0
def Rec.neg (x : α) : α := R.set x (-R.amt x)
def Rec.sums (l : List α) : List α := l.foldl R.put []
def Rec.Bdd (B : Int) (l : List α) : Prop := ∀ x ∈ l, -B ≤ R.amt x ∧ R.amt x ≤ B

variable {R}
theorem Rec.tot_append (l m : List α) (c : κ) : R.tot (l ++ m) c = R.tot l c + R.tot m c := by
  induction l with
  | nil => simp [Rec.tot]
  | cons a l ih => simp [Rec.tot, ih]; omega
end
section
variable {α κ : Type} {R : Rec α κ}
theorem Rec.mem_nz (x : α) : R.nz x = true ↔ R.amt x ≠ 0 := by simp [Rec.nz]
end
section
variable {α κ : Type} [DecidableEq κ] {R : Rec α κ}
theorem Rec.has_append (l m : List α) (c : κ) : R.has (l ++ m) c = (R.has l c || R.has m c) := by simp [Rec.has]
theorem Rec.tot_put (L : R.Law) (l : List α) (e : α) (c : κ) : R.tot (R.put l e) c = R.tot l c + (if R.key e = c then R.amt e else 0) := by
  induction l with
  | nil => simp [Rec.put, Rec.tot]
  | cons a l ih =>
    rw [Rec.put]
    split
    · simp only [Rec.tot, ih]; omega
    · split
      · rename_i h
        simp only [Rec.tot, L.key_set, L.amt_set, h]
        split <;> omega
      · simp only [Rec.tot]; omega
theorem Rec.has_put (L : R.Law) (l : List α) (e : α) (c : κ) : R.has (R.put l e) c = (R.has l c || decide (R.key e = c)) := by
  induction l with
  | nil => simp [Rec.put, Rec.has]
  | cons a l ih =>
    rw [Rec.put]
    unfold Rec.has at ih ⊢
    split
    · simp only [List.any_cons, ih, Bool.or_assoc]
    · split
      · rename_i h
        simp only [List.any_cons, L.key_set, h]
        cases decide (R.key e = c) <;> simp
      · simp only [List.any_cons]
        cases decide (R.key e = c) <;> simp
theorem Rec.put_keys (L : R.Law) (l : List α) (e x : α) (hx : x ∈ R.put l e) : R.key x = R.key e ∨ ∃ y ∈ l, R.key y = R.key x := by
  have h := Rec.has_put L l e (R.key x)
  have h1 : R.has (R.put l e) (R.key x) = true := List.any_eq_true.2 ⟨x, hx, by simp⟩
  rw [h1] at h
  have h2 := h.symm
  rw [Bool.or_eq_true] at h2
  rcases h2 with h2 | h2
  · obtain ⟨y, hy, e⟩ := List.any_eq_true.1 h2
    exact .inr ⟨y, hy, by simpa using e⟩
  · exact .inl (by simpa using h2 : R.key e = R.key x).symm
theorem Rec.sorted_put (L : R.Law) {l : List α} (h : R.Sorted l) (e : α) : R.Sorted (R.put l e) := by
  induction l with
  | nil => simp [Rec.put, Rec.Sorted]
  | cons a l ih =>
    obtain ⟨h1, h2⟩ := List.pairwise_cons.1 h
    rw [Rec.put]
    split
    · rename_i hae
      refine List.pairwise_cons.2 ⟨fun x hx => ?_, ih h2⟩
      rcases Rec.put_keys L l e x hx with hc | ⟨y, hy, hc⟩
      · rw [hc]; exact hae
      · rw [← hc]; exact h1 y hy
    · rename_i hae
      split
      · rename_i hc
        refine List.pairwise_cons.2 ⟨fun x hx => ?_, h2⟩
        rw [L.key_set, ← hc]
        exact h1 x hx
      · rename_i hc
        have hea : R.lt (R.key e) (R.key a) = true := by
          cases hh : R.lt (R.key e) (R.key a)
          · exact absurd (L.total _ _ (by simpa using hae) hh) hc
          · rfl
        refine List.pairwise_cons.2 ⟨fun x hx => ?_, h⟩
        rcases List.mem_cons.1 hx with rfl | hx
        · exact hea
        · exact L.trans _ _ _ hea (h1 x hx)
theorem Rec.foldl_facts (L : R.Law) (l : List α) : ∀ acc, R.Sorted acc → R.Sorted (l.foldl R.put acc) ∧ (∀ c, R.tot (l.foldl R.put acc) c = R.tot acc c + R.tot l c) ∧ ∀ c, R.has (l.foldl R.put acc) c = (R.has acc c || R.has l c) := by
  induction l with
  | nil => intro acc h; exact ⟨h, fun c => by simp [Rec.tot], fun c => by simp [Rec.has]⟩
  | cons a l ih =>
    intro acc h
    obtain ⟨h1, h2, h3⟩ := ih (R.put acc a) (Rec.sorted_put L h a)
    refine ⟨h1, fun c => ?_, fun c => ?_⟩
    · rw [List.foldl_cons, h2, Rec.tot_put L]; simp only [Rec.tot]; omega
    · rw [List.foldl_cons, h3, Rec.has_put L]
      simp only [Rec.has, List.any_cons, Bool.or_assoc]
theorem Rec.sums_sorted (L : R.Law) (l : List α) : R.Sorted (R.sums l) := (Rec.foldl_facts L l [] List.Pairwise.nil).1
theorem Rec.sums_tot (L : R.Law) (l : List α) (c : κ) : R.tot (R.sums l) c = R.tot l c := by
  have := (Rec.foldl_facts L l [] List.Pairwise.nil).2.1 c
  simpa [Rec.tot, Rec.sums] using this
theorem Rec.sums_has (L : R.Law) (l : List α) (c : κ) : R.has (R.sums l) c = R.has l c := by
  have := (Rec.foldl_facts L l [] List.Pairwise.nil).2.2 c
  simpa [Rec.has, Rec.sums] using this
theorem Rec.tot_out {l : List α} {c : κ} (h : ∀ x ∈ l, R.key x ≠ c) : R.tot l c = 0 := by
  induction l with
  | nil => rfl
  | cons a l ih => simp only [Rec.tot, if_neg (h a (by simp))]; rw [ih (fun x hx => h x (by simp [hx]))]; rfl
theorem Rec.mem_sorted (L : R.Law) {l : List α} (h : R.Sorted l) (x : α) : x ∈ l ↔ (R.has l (R.key x) = true ∧ R.amt x = R.tot l (R.key x)) := by
  induction l with
  | nil => simp [Rec.has]
  | cons a l ih =>
    obtain ⟨h1, h2⟩ := List.pairwise_cons.1 h
    have ih := ih h2
    have hout : ∀ y ∈ l, R.key y ≠ R.key a := by
      intro y hy e
      have := h1 y hy
      rw [e, L.irrefl] at this
      cases this
    by_cases hc : R.key a = R.key x
    · have ht : R.tot l (R.key x) = 0 := by rw [← hc]; exact Rec.tot_out hout
      simp only [Rec.has, List.any_cons, Rec.tot, hc, decide_true, Bool.true_or, if_true, ht, true_and, List.mem_cons]
      constructor
      · rintro (rfl | hx)
        · omega
        · exact absurd hc.symm (hout x hx)
      · intro hx
        left
        exact L.ext _ _ hc.symm (by omega)
    · have hne : x ≠ a := by rintro rfl; exact hc rfl
      simp only [Rec.has, List.any_cons, Rec.tot, hc, decide_false, Bool.false_or, if_false, Int.zero_add, List.mem_cons, hne, false_or]
      exact ih
end
section
variable {α κ : Type} {R : Rec α κ}
theorem Rec.sorted_ext (L : R.Law) : ∀ {l m : List α}, R.Sorted l → R.Sorted m → (∀ x, x ∈ l ↔ x ∈ m) → l = m
  | [], [], _, _, _ => rfl
  | [], b :: s, _, _, h => by have := (h b).2 (by simp); simp at this
  | a :: r, [], _, _, h => by have := (h a).1 (by simp); simp at this
  | a :: r, b :: s, h1, h2, h => by
    obtain ⟨a1, a2⟩ := List.pairwise_cons.1 h1
    obtain ⟨b1, b2⟩ := List.pairwise_cons.1 h2
    have irr : ∀ x : α, ¬ R.lt (R.key x) (R.key x) = true := fun x hx => by rw [L.irrefl] at hx; cases hx
    have hab : a = b := by
      rcases List.mem_cons.1 ((h a).1 (by simp)) with e | ha
      · exact e
      · rcases List.mem_cons.1 ((h b).2 (by simp)) with e | hb
        · exact e.symm
        · exact absurd (L.trans _ _ _ (a1 b hb) (b1 a ha)) (irr _)
    subst hab
    rw [Rec.sorted_ext L a2 b2 (fun p => ⟨fun hp => by
      rcases List.mem_cons.1 ((h p).1 (by simp [hp])) with e | hp'
      · subst e; exact absurd (a1 _ hp) (irr _)
      · exact hp', fun hp => by
      rcases List.mem_cons.1 ((h p).2 (by simp [hp])) with e | hp'
      · subst e; exact absurd (b1 _ hp) (irr _)
      · exact hp'⟩)]
end
section
variable {α κ : Type} [DecidableEq κ] {R : Rec α κ}
/-- A sorted list with the records of L that are not 0 is L without its zeros. -/
theorem Rec.filtered_eq (L : R.Law) {l ys : List α} (hL : R.Sorted l) (h : R.Sorted ys) (hm : ∀ x : α, x ∈ ys ↔ (R.has l (R.key x) = true ∧ R.amt x = R.tot l (R.key x) ∧ R.amt x ≠ 0)) : ys = l.filter R.nz := by
  refine Rec.sorted_ext L h (hL.filter _) fun x => ?_
  rw [hm, List.mem_filter, Rec.mem_sorted L hL, Rec.mem_nz, and_assoc]
theorem Rec.any_iff (L : R.Law) (p : Int → Bool) {l : List α} (h : R.Sorted l) : l.any (fun x => !p (R.amt x)) = true ↔ ∃ c, R.has l c = true ∧ p (R.tot l c) = false := by
  rw [List.any_eq_true]
  constructor
  · rintro ⟨x, hx, h2⟩
    rw [Rec.mem_sorted L h] at hx
    exact ⟨_, hx.1, by rw [← hx.2]; simpa using h2⟩
  · rintro ⟨c, hc, h2⟩
    obtain ⟨x, hx, he⟩ := List.any_eq_true.1 hc
    have he' : R.key x = c := by simpa using he
    have hx2 := (Rec.mem_sorted L h x).1 hx
    rw [he'] at hx2
    exact ⟨x, hx, by rw [hx2.2]; simp [h2]⟩
theorem Rec.tot_neg (L : R.Law) (l : List α) (c : κ) : R.tot (l.map R.neg) c = -R.tot l c := by
  induction l with
  | nil => simp [Rec.tot]
  | cons a l ih =>
    simp only [List.map_cons, Rec.tot, ih, Rec.neg, L.key_set, L.amt_set]
    split <;> omega
theorem Rec.has_neg (L : R.Law) (l : List α) (c : κ) : R.has (l.map R.neg) c = R.has l c := by
  simp only [Rec.has, List.any_map]
  congr
  funext x
  simp [Rec.neg, L.key_set]
theorem Rec.tot_filter (l : List α) (c : κ) : R.tot (l.filter R.nz) c = R.tot l c := by
  induction l with
  | nil => rfl
  | cons a l ih =>
    rw [List.filter_cons]
    by_cases h : R.nz a = true
    · rw [if_pos h]; simp only [Rec.tot, ih]
    · rw [if_neg h]
      have h0 : R.amt a = 0 := by simpa [Rec.nz] using h
      simp only [Rec.tot, ih, h0]
      split <;> omega
theorem Rec.has_of_tot {l : List α} {c : κ} (h : R.tot l c ≠ 0) : R.has l c = true := by
  cases hk : R.has l c
  · exfalso
    apply h
    apply Rec.tot_out
    intro x hx e
    rw [Rec.has, List.any_eq_false] at hk
    exact hk x hx (by simp [e])
  · rfl
theorem Rec.tot_bd (l : List α) (c : κ) (B : Int) (hB : 0 ≤ B) (h : ∀ x ∈ l, -B ≤ R.amt x ∧ R.amt x ≤ B) : -(l.length * B : Int) ≤ R.tot l c ∧ R.tot l c ≤ l.length * B := by
  induction l with
  | nil => simp [Rec.tot]
  | cons a l ih =>
    have h1 := ih (fun x hx => h x (by simp [hx]))
    have h2 := h a (by simp)
    simp only [Rec.tot, List.length_cons]
    have e9 : ((l.length + 1 : Nat) : Int) * B = (l.length : Int) * B + B := by rw [Int.natCast_add, Int.add_mul]; omega
    rw [e9]
    split <;> omega
theorem Rec.put_length (l : List α) (e : α) : (R.put l e).length ≤ l.length + 1 := by
  induction l with
  | nil => simp [Rec.put]
  | cons a l ih =>
    rw [Rec.put]
    split
    · simp; omega
    · split <;> simp
theorem Rec.foldl_length (l : List α) : ∀ acc : List α, (l.foldl R.put acc).length ≤ acc.length + l.length := by
  induction l with
  | nil => intro acc; simp
  | cons a l ih => intro acc; have h1 := ih (R.put acc a); have h2 := Rec.put_length (R := R) acc a; simp; omega
theorem Rec.sums_length (l : List α) : (R.sums l).length ≤ l.length := by
  have := Rec.foldl_length (R := R) l []
  simpa [Rec.sums] using this
theorem Rec.Bdd.put (L : R.Law) {B C : Int} {l : List α} {e : α} (h : R.Bdd B l) (hB : 0 ≤ B) (hC : 0 ≤ C) (h1 : -C ≤ R.amt e) (h2 : R.amt e ≤ C) : R.Bdd (B + C) (R.put l e) := by
  induction l with
  | nil => intro x hx; simp [Rec.put] at hx; subst hx; omega
  | cons a l ih =>
    have ha := h a (by simp)
    have hl : R.Bdd B l := fun x hx => h x (by simp [hx])
    intro x hx
    rw [Rec.put] at hx
    split at hx
    · rcases List.mem_cons.1 hx with rfl | hx
      · omega
      · exact ih hl x hx
    · split at hx
      · rcases List.mem_cons.1 hx with rfl | hx
        · rw [L.amt_set]; omega
        · have := hl x hx; omega
      · rcases List.mem_cons.1 hx with rfl | hx
        · omega
        · have := h x hx; omega
theorem Rec.sums_snoc (l : List α) (x : α) : R.sums (l ++ [x]) = R.put (R.sums l) x := by simp [Rec.sums, List.foldl_append]
theorem Rec.tot_take (l : List α) (k : Nat) (h : k < l.length) (c : κ) : R.tot (l.take (k + 1)) c = R.tot (l.take k) c + if R.key l[k] = c then R.amt l[k] else 0 := by
  rw [List.take_succ_eq_append_getElem h, Rec.tot_append]; simp [Rec.tot]
theorem Rec.has_take (l : List α) (k : Nat) (h : k < l.length) (c : κ) : R.has (l.take (k + 1)) c = (R.has (l.take k) c || decide (R.key l[k] = c)) := by
  rw [List.take_succ_eq_append_getElem h, Rec.has_append]; simp [Rec.has]
theorem Rec.sums_keys (L : R.Law) {l : List α} {x : α} (hx : x ∈ R.sums l) : ∃ y ∈ l, R.key y = R.key x := by
  have h1 : R.has (R.sums l) (R.key x) = true := List.any_eq_true.2 ⟨x, hx, by simp⟩
  rw [Rec.sums_has L] at h1
  obtain ⟨y, hy, e⟩ := List.any_eq_true.1 h1
  exact ⟨y, hy, by simpa using e⟩
end
end Go.Proofs.Ytbiajkknpkeeoaa
