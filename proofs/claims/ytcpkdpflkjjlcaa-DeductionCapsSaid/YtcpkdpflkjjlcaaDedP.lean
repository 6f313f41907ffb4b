/- Plain laws on deductions: the order in which they are considered, what is taken. Conditions: as stated. -/
import Derived.Test.YtcpkdpflkjjlcaaDed
namespace Go.Proofs.Ytcpkdpflkjjlcaa
open Go.RowKit

theorem sorted_ext' {α : Type} {lt : α → α → Prop} (irr : ∀ x, ¬ lt x x) (tr : ∀ x y z, lt x y → lt y z → lt x z) : ∀ {l m : List α}, l.Pairwise lt → m.Pairwise lt → (∀ x, x ∈ l ↔ x ∈ m) → l = m
  | [], [], _, _, _ => rfl
  | [], b :: s, _, _, h => by have := (h b).2 (by simp); simp at this
  | a :: r, [], _, _, h => by have := (h a).1 (by simp); simp at this
  | a :: r, b :: s, h1, h2, h => by
    obtain ⟨a1, a2⟩ := List.pairwise_cons.1 h1
    obtain ⟨b1, b2⟩ := List.pairwise_cons.1 h2
    have hab : a = b := by
      rcases List.mem_cons.1 ((h a).1 (by simp)) with e | ha
      · exact e
      · rcases List.mem_cons.1 ((h b).2 (by simp)) with e | hb
        · exact e.symm
        · exact absurd (tr _ _ _ (a1 b hb) (b1 a ha)) (irr _)
    subst hab
    rw [sorted_ext' irr tr a2 b2 (fun p => ⟨fun hp => by
      rcases List.mem_cons.1 ((h p).1 (by simp [hp])) with e | hp'
      · subst e; exact absurd (a1 _ hp) (irr _)
      · exact hp', fun hp => by
      rcases List.mem_cons.1 ((h p).2 (by simp [hp])) with e | hp'
      · subst e; exact absurd (b1 _ hp) (irr _)
      · exact hp'⟩)]

/-- The order in which deductions are considered. -/
def LtD (a b : DedT) : Prop := a.rank < b.rank ∨ a.rank = b.rank ∧ a.code.data.toList < b.code.data.toList
theorem LtD.irr (x : DedT) : ¬ LtD x x := by
  rintro (h | ⟨_, h⟩)
  · omega
  · exact List.lt_irrefl _ h
theorem LtD.tr (x y z : DedT) (h1 : LtD x y) (h2 : LtD y z) : LtD x z := by
  rcases h1 with h1 | ⟨h1, g1⟩ <;> rcases h2 with h2 | ⟨h2, g2⟩
  · exact .inl (by omega)
  · exact .inl (by omega)
  · exact .inl (by omega)
  · exact .inr ⟨by omega, List.lt_trans g1 g2⟩
theorem mem_ordD {l : List DedT} (h : ∀ x ∈ l, DedOk x) (x : DedT) : x ∈ ordD l ↔ x ∈ l := by
  unfold ordD
  simp only [List.mem_flatMap, List.mem_range, List.mem_filter, decide_eq_true_eq]
  constructor
  · rintro ⟨r, _, h1, _⟩; exact h1
  · intro hx
    have h0 := (h x hx).r0
    have h1 := (h x hx).r1
    exact ⟨x.rank.toNat, by omega, hx, by omega⟩
theorem ordD_sorted {l : List DedT} (h : l.Pairwise (fun a b => Op.bytesLess a.code.toList b.code.toList = true)) : (ordD l).Pairwise LtD := by
  unfold ordD
  rw [List.pairwise_flatMap]
  refine ⟨fun r _ => ?_, ?_⟩
  · rw [List.pairwise_filter]
    refine h.imp ?_
    intro a b hab ha hb
    rw [less_eq, ByteArray.toList_eq, ByteArray.toList_eq] at hab
    simp only [decide_eq_true_eq] at ha hb hab
    exact .inr ⟨by omega, hab⟩
  · refine (List.pairwise_lt_range (n := 100)).imp ?_
    intro r s hrs x hx y hy
    simp only [List.mem_filter, decide_eq_true_eq] at hx hy
    exact .inl (by omega)
/-- Any list of the same deductions that is sorted by rank and code is that list. -/
theorem ordD_eq {l zs : List DedT} (hv : validD l = true) (hp : zs.Perm l) (hs : zs.Pairwise (fun a b => ¬ LtD b a)) : zs = ordD l := by
  obtain ⟨_, hok, hasc⟩ := validD_iff.1 hv
  refine sorted_ext' LtD.irr LtD.tr ?_ (ordD_sorted hasc) (fun x => by rw [mem_ordD hok, hp.mem_iff])
  have hne : l.Pairwise (fun a b => a.code.data.toList ≠ b.code.data.toList) := hasc.imp (by
    intro a b hab e
    rw [less_eq, ByteArray.toList_eq, ByteArray.toList_eq, e] at hab
    exact List.lt_irrefl _ (of_decide_eq_true hab))
  have hne2 := hne.perm hp.symm (fun h e => h e.symm)
  refine (hs.and hne2).imp ?_
  rintro a b ⟨hab, hn⟩
  rcases Int.lt_trichotomy a.rank b.rank with h | h | h
  · exact .inl h
  · refine .inr ⟨h, ?_⟩
    apply Decidable.byContradiction
    intro hlt
    have h2 : b.code.data.toList ≤ a.code.data.toList := List.not_lt.1 hlt
    have h3 : ¬ b.code.data.toList < a.code.data.toList := fun hh => hab (.inr ⟨h.symm, hh⟩)
    exact hn (List.le_antisymm (List.not_lt.1 h3) h2)
  · exact absurd (.inl h) hab
theorem ordD_code {l : List DedT} (hv : validD l = true) : (ordD l).Pairwise (fun a b => a.code ≠ b.code) := by
  obtain ⟨_, hok, hasc⟩ := validD_iff.1 hv
  refine List.Pairwise.imp_of_mem ?_ (ordD_sorted hasc)
  intro a b ha hb hab he
  have ha' := (mem_ordD hok a).1 ha
  have hb' := (mem_ordD hok b).1 hb
  have hne : a ≠ b := fun e => LtD.irr a (by subst e; exact hab)
  obtain ⟨i, hi, rfl⟩ := List.mem_iff_getElem.1 ha'
  obtain ⟨j, hj, rfl⟩ := List.mem_iff_getElem.1 hb'
  have hij : i ≠ j := fun e => hne (by subst e; rfl)
  have P := List.pairwise_iff_getElem.1 hasc
  rcases Nat.lt_or_gt_of_ne hij with h | h
  · have := P i j hi hj h
    rw [he, less_eq] at this
    exact List.lt_irrefl _ (of_decide_eq_true this)
  · have := P j i hj hi h
    rw [he, less_eq] at this
    exact List.lt_irrefl _ (of_decide_eq_true this)

section
variable {before : Bool} {base : Int} {year : List Elem}
theorem tk_append (P Q : List DedT) : ∀ a, tk before base year (P ++ Q) a = tk before base year P a ++ tk before base year Q (rst before base year P a) := by
  induction P with
  | nil => intro a; rfl
  | cons d r ih => intro a; simp only [List.cons_append, tk, rst, ih, List.append_assoc]
theorem rst_append (P Q : List DedT) : ∀ a, rst before base year (P ++ Q) a = rst before base year Q (rst before base year P a) := by
  induction P with
  | nil => intro a; rfl
  | cons d r ih => intro a; simp only [List.cons_append, rst, ih]
theorem tk_length (P : List DedT) : ∀ a, (tk before base year P a).length ≤ P.length := by
  induction P with
  | nil => intro a; simp [tk]
  | cons d r ih =>
    intro a
    simp only [tk, List.length_append, List.length_cons]
    have := ih (a - amtT before base year d a)
    split <;> simp <;> omega
theorem amtT_bd {d : DedT} {left : Int} (h : DedOk d) (h1 : 0 ≤ base) (h2 : base ≤ 1000000000) (hl : 0 ≤ left) : 0 ≤ amtT before base year d left ∧ amtT before base year d left ≤ left ∧ amtT before base year d left ≤ 1000000000 := by
  have := wantN_bd (taken := atE year d.code) h h1 h2
  unfold amtT
  split <;> omega
theorem rst_bd {P : List DedT} (hP : ∀ x ∈ P, DedOk x) (h1 : 0 ≤ base) (h2 : base ≤ 1000000000) : ∀ a, 0 ≤ a → 0 ≤ rst before base year P a ∧ rst before base year P a ≤ a := by
  induction P with
  | nil => intro a ha; exact ⟨ha, Int.le_refl _⟩
  | cons d r ih =>
    intro a ha
    have hb := amtT_bd (before := before) (year := year) (left := a) (hP d (by simp)) h1 h2 ha
    have := ih (fun x hx => hP x (by simp [hx])) (a - amtT before base year d a) (by omega)
    simp only [rst]
    omega
theorem tk_mem {P : List DedT} (hP : ∀ x ∈ P, DedOk x) (h1 : 0 ≤ base) (h2 : base ≤ 1000000000) : ∀ a, 0 ≤ a → ∀ x ∈ tk before base year P a, (∃ d ∈ P, x.code = d.code) ∧ 0 < x.amount ∧ x.amount ≤ a ∧ x.amount ≤ 1000000000 := by
  induction P with
  | nil => intro a ha x hx; simp [tk] at hx
  | cons d r ih =>
    intro a ha x hx
    have hb := amtT_bd (before := before) (year := year) (left := a) (hP d (by simp)) h1 h2 ha
    simp only [tk, List.mem_append] at hx
    rcases hx with hx | hx
    · split at hx
      · rename_i hpos
        simp at hx
        subst hx
        exact ⟨⟨d, by simp, rfl⟩, hpos, hb.2.1, hb.2.2⟩
      · simp at hx
    · obtain ⟨⟨e, he, hc⟩, g1, g2, g3⟩ := ih (fun x hx => hP x (by simp [hx])) _ (by omega) x hx
      exact ⟨⟨e, by simp [he], hc⟩, g1, by omega, g3⟩
theorem tk_code {P : List DedT} (hP : P.Pairwise (fun a b => a.code ≠ b.code)) : ∀ a, (tk before base year P a).Pairwise (fun a b => a.code ≠ b.code) := by
  have hmem : ∀ (P : List DedT) a x, x ∈ tk before base year P a → ∃ d ∈ P, x.code = d.code := by
    intro P
    induction P with
    | nil => intro a x hx; simp [tk] at hx
    | cons d r ih =>
      intro a x hx
      simp only [tk, List.mem_append] at hx
      rcases hx with hx | hx
      · split at hx
        · simp at hx; subst hx; exact ⟨d, by simp, rfl⟩
        · simp at hx
      · obtain ⟨e, he, hc⟩ := ih _ x hx
        exact ⟨e, by simp [he], hc⟩
  induction P with
  | nil => intro a; exact List.Pairwise.nil
  | cons d r ih =>
    intro a
    obtain ⟨h1, h2⟩ := List.pairwise_cons.1 hP
    simp only [tk]
    rw [List.pairwise_append]
    refine ⟨by split <;> simp, ih h2 _, fun x hx y hy => ?_⟩
    split at hx
    · simp at hx
      subst hx
      obtain ⟨e, he, hc⟩ := hmem r _ y hy
      rw [hc]
      exact h1 e he
    · simp at hx
theorem sumE_tk (P : List DedT) (hP : ∀ x ∈ P, DedOk x) (h1 : 0 ≤ base) (h2 : base ≤ 1000000000) : ∀ a, 0 ≤ a → sumE (tk before base year P a) = a - rst before base year P a := by
  induction P with
  | nil => intro a _; simp [tk, rst, sumE]
  | cons d r ih =>
    intro a ha
    have hb := amtT_bd (before := before) (year := year) (left := a) (hP d (by simp)) h1 h2 ha
    simp only [tk, rst, sumE_append, ih (fun x hx => hP x (by simp [hx])) _ (show 0 ≤ a - amtT before base year d a by omega)]
    split
    · simp only [sumE]; omega
    · simp only [sumE]; omega
end

theorem sumE_put (l : List Elem) (e : Elem) : sumE (put l e) = sumE l + e.amount := by
  induction l with
  | nil => simp [put, sumE]
  | cons a l ih =>
    rw [put]
    split
    · simp only [sumE, ih]; omega
    · split
      · simp only [sumE]; omega
      · simp only [sumE]; omega
theorem sumE_foldl (l : List Elem) : ∀ acc, sumE (l.foldl put acc) = sumE acc + sumE l := by
  induction l with
  | nil => intro acc; simp [sumE]
  | cons a l ih => intro acc; rw [List.foldl_cons, ih, sumE_put]; simp only [sumE]; omega
theorem sumE_sumsP (l : List Elem) : sumE (sumsP l) = sumE l := by
  have := sumE_foldl l []
  simpa [sumsP, sumE] using this
theorem sumE_nz (l : List Elem) : sumE (l.filter nz) = sumE l := by
  induction l with
  | nil => rfl
  | cons a l ih =>
    rw [List.filter_cons]
    split
    · simp only [sumE, ih]
    · rename_i h
      have : a.amount = 0 := by simpa [nz] using h
      simp only [sumE, ih]; omega
theorem totE_perm {l m : List Elem} (h : l.Perm m) (c : List UInt8) : totE l c = totE m c := by
  induction h with
  | nil => rfl
  | cons a _ ih => simp only [totE, ih]
  | swap a b l => simp only [totE]; omega
  | trans _ _ h1 h2 => rw [h1, h2]
theorem keyE_perm {l m : List Elem} (h : l.Perm m) (c : List UInt8) : keyE l c = keyE m c := by
  rw [Bool.eq_iff_iff]
  simp only [keyE, List.any_eq_true]
  exact ⟨fun ⟨x, hx, e⟩ => ⟨x, h.mem_iff.1 hx, e⟩, fun ⟨x, hx, e⟩ => ⟨x, h.mem_iff.2 hx, e⟩⟩
/-- The sorted list of elements with codes of their own is the list of their sums. -/
theorem sumsP_eq {ts zs : List Elem} (hp : zs.Perm ts) (hs : SortedE zs) : zs = sumsP ts :=
  sorted_ext hs (sumsP_sorted ts) (fun x => by rw [mem_sorted hs, mem_sorted (sumsP_sorted ts), sumsP_key, sumsP_tot, totE_perm hp, keyE_perm hp])

end Go.Proofs.Ytcpkdpflkjjlcaa
