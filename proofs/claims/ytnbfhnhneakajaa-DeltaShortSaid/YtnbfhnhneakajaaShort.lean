/- The plain law of payrolllaw37.DeltaShort, and its walk. Conditions: as stated. -/
import Derived.Test.YtnbfhnhneakajaaNothing
import Derived.Test.YtnbfhnhneakajaaBook2
namespace Go.Proofs.Ytnbfhnhneakajaa
open Go.RowKit

structure DiffOk (a b d : List LineT) : Prop where
  tot : ∀ c, RL.tot d c = RL.tot b c - RL.tot a c
  form : ∀ x ∈ d, formZ x = true
  code : ∀ x ∈ d, x.code.size ≤ maxLen
  bd : ∀ x ∈ d, -20000000 ≤ x.amount ∧ x.amount ≤ 20000000
  len : d.length ≤ 20

theorem mR_short {l : List LineT} : (mR l).length ≤ l.length := by
  rw [mR]; split
  · have h2 := List.length_filter_le RL.nz (RL.sums l)
    have h3 := Rec.sums_length (R := RL) l
    omega
  · simp
theorem tot_small {a : List LineT} (h : ∀ x ∈ a, LineOk x) (hl : a.length ≤ 10) (c : Int × List UInt8) : -6000000 ≤ RL.tot a c ∧ RL.tot a c ≤ 6000000 := by
  have := Rec.tot_bd (R := RL) a c 600000 (by omega) (fun x hx => ⟨(h x hx).lo, (h x hx).hi⟩)
  omega
theorem diff_law {a b : List LineT} (ha : ∀ x ∈ a, LineOk x) (hb : ∀ x ∈ b, LineOk x) (hla : a.length ≤ 10) (hlb : b.length ≤ 10) : cErr a b = 0 ∧ DiffOk a b (cR a b) := by
  have ha0 := mErr_ok ha (by omega)
  have hb0 := mErr_ok hb (by omega)
  obtain ⟨s1, s2, s3⟩ := cmpL_facts (x := mR a) (mR_sorted b)
  have ht : ∀ c, RL.tot (cmpL (mR a) (mR b)) c = RL.tot b c - RL.tot a c := fun c => by rw [s2, mR_tot ha0, mR_tot hb0]
  have h4 : anyOver (cmpL (mR a) (mR b)) = false := by
    cases hh : anyOver (cmpL (mR a) (mR b))
    · rfl
    · obtain ⟨c, _, hc2⟩ := (Rec.any_iff RL_law maxN s1).1 hh
      rw [ht] at hc2
      have h1 := tot_small ha hla c
      have h2 := tot_small hb hlb c
      simp [maxN] at hc2
      omega
  have he : cErr a b = 0 := by rw [cErr_ok ha0 hb0, h4]; rfl
  have hR : cR a b = (cmpL (mR a) (mR b)).filter RL.nz := by rw [cR, if_pos he]
  have hkey : ∀ x ∈ cmpL (mR a) (mR b), ∃ y, LineOk y ∧ RL.key y = RL.key x := fun x hx => by
    have h1 := ((Rec.mem_sorted RL_law s1 x).1 hx).1
    rw [s3, Bool.or_eq_true] at h1
    rcases h1 with h1 | h1
    · obtain ⟨y, hy, e⟩ := List.any_eq_true.1 h1
      obtain ⟨_, z, hz, e2⟩ := mR_key hy
      exact ⟨z, hb z hz, e2.trans (by simpa using e)⟩
    · obtain ⟨y, hy, e⟩ := List.any_eq_true.1 h1
      obtain ⟨_, z, hz, e2⟩ := mR_key hy
      exact ⟨z, ha z hz, e2.trans (by simpa using e)⟩
  have hamt : ∀ x ∈ cmpL (mR a) (mR b), -12000000 ≤ x.amount ∧ x.amount ≤ 12000000 := fun x hx => by
    have h1 : x.amount = RL.tot (cmpL (mR a) (mR b)) (RL.key x) := ((Rec.mem_sorted RL_law s1 x).1 hx).2
    rw [h1, ht]
    have h1 := tot_small ha hla (RL.key x)
    have h2 := tot_small hb hlb (RL.key x)
    omega
  refine ⟨he, ⟨fun c => by rw [hR, Rec.tot_filter, ht], fun x hx => ?_, fun x hx => ?_, fun x hx => ?_, ?_⟩⟩
  · rw [hR, List.mem_filter] at hx
    obtain ⟨y, hy, e⟩ := hkey x hx.1
    have h1 := hy.form
    injection e with e1 e2
    have e3 : y.code = x.code := ba_ext e2
    have h2 := hamt x hx.1
    have h3 : x.amount ≠ 0 := (Rec.mem_nz x).1 hx.2
    have h5 : maxN x.amount = true := by simp [maxN]; omega
    have h6 : formB x = true := by
      simp only [formB, codeB, e1, e3, Bool.and_eq_true, decide_eq_true_eq] at h1 ⊢
      exact ⟨⟨⟨h1.1.1.1, h1.1.1.2⟩, h5⟩, h1.2⟩
    rw [formZ, h6]
    simpa using h3
  · rw [hR, List.mem_filter] at hx
    obtain ⟨y, hy, e⟩ := hkey x hx.1
    injection e with e1 e2
    rw [← ba_ext e2]
    exact Nat.le_trans hy.code (by unfold maxLen; omega)
  · rw [hR, List.mem_filter] at hx
    have := hamt x hx.1
    omega
  · rw [hR]
    have h1 := List.length_filter_le RL.nz (cmpL (mR a) (mR b))
    have h2 := cmpL_len (mR a) (mR b)
    have h3 := mR_short (l := a)
    have h4 := mR_short (l := b)
    omega
theorem form_of {x : LineT} (h : formZ x = true) : formB x = true := by
  rw [formZ, Bool.and_eq_true] at h; exact h.1
theorem mErr_diff {l : List LineT} (h : ∀ x ∈ l, formZ x = true) (hb : ∀ x ∈ l, -20000000 ≤ x.amount ∧ x.amount ≤ 20000000) (hl : l.length ≤ 40) : mErr l = 0 := by
  have h1 : l.any (fun x => !formB x) = false := by
    rw [List.any_eq_false]; intro x hx; simp [form_of (h x hx)]
  rw [mErr_cases l (by omega) h1]
  have h4 : anyOver (RL.sums l) = false := by
    cases hh : anyOver (RL.sums l)
    · rfl
    · obtain ⟨c, _, hc2⟩ := (Rec.any_iff RL_law maxN (Rec.sums_sorted RL_law l)).1 hh
      rw [Rec.sums_tot RL_law] at hc2
      have := Rec.tot_bd (R := RL) l c 20000000 (by omega) hb
      simp [maxN] at hc2
      omega
  rw [h4]; rfl
/-- Lists with the same sums merge to the same list. -/
theorem mR_same {l m : List LineT} (h1 : mErr l = 0) (h2 : mErr m = 0) (h : ∀ c, RL.tot l c = RL.tot m c) : mR l = mR m := by
  refine Rec.sorted_ext RL_law (mR_sorted l) (mR_sorted m) fun x => ?_
  have hx : ∀ {l : List LineT}, mErr l = 0 → (x ∈ mR l ↔ RL.amt x = RL.tot l (RL.key x) ∧ RL.amt x ≠ 0) := by
    intro l hl
    rw [mR, if_pos hl, List.mem_filter, Rec.mem_sorted RL_law (Rec.sums_sorted RL_law l), Rec.mem_nz, Rec.sums_tot RL_law]
    constructor
    · rintro ⟨⟨_, a⟩, b⟩; exact ⟨a, b⟩
    · rintro ⟨a, b⟩
      refine ⟨⟨?_, a⟩, b⟩
      apply Rec.has_of_tot
      rw [Rec.sums_tot RL_law, ← a]; exact b
  rw [hx h1, hx h2, h]

end Go.Proofs.Ytnbfhnhneakajaa
