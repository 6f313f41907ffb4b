/- Plain laws: drawn elements have no errors; bases add up; differences. Conditions: as stated. -/
import Derived.Test.YtlfefcfddpmccaaOfEq
import Derived.Test.YtlfefcfddpmccaaGenE
namespace Go.Proofs.Ytlfefcfddpmccaa
open Go.RowKit

theorem names4 : ∀ c ∈ codes4, nameB c = true := by decide +kernel
theorem sorted4 : codes4.Pairwise (fun a b => Op.bytesLess a.toList b.toList = true) := by decide +kernel

theorem GenW.valid {ws : List WageT} (h : GenW 4 ws) : validB ws = true := by
  have hp : (ws.map (·.code)).Pairwise (fun a b => Op.bytesLess a.toList b.toList = true) := List.Pairwise.sublist (by simpa [codes4] using h.sub) sorted4
  rw [List.pairwise_map] at hp
  refine validB_yes (by have := h.len; omega) fun i hi => ?_
  have hx := h.ok _ (List.getElem_mem hi)
  rw [okAt_eq ws i ws[i] true ?_]
  · have h1 := names4 _ hx.code
    have h2 := hx.lo
    have h3 := hx.hi
    refine decide_eq_true ⟨h1, .inr rfl, ?_, ?_, by omega, by omega⟩
    · rcases hx.kind with h | h
      · exact .inl h
      · exact .inr h.1
    · rintro ⟨h4, h5⟩
      rcases hx.kind with h | h
      · omega
      · rw [h.2] at h5; cases h5
  · rcases Nat.eq_zero_or_pos i with h0 | h0
    · exact .inl h0
    · right
      refine ⟨ws[i - 1]'(by omega), List.getElem?_eq_getElem (by omega), ?_⟩
      rw [List.pairwise_iff_getElem] at hp
      exact (hp (i - 1) i (by omega) hi (by omega)).symm

theorem GenE.name {ws : List WageT} {es : List Elem} (h : GenW 4 ws) (he : GenE ws es) : ∀ x ∈ es, nameB x.code = true := fun x hx => by
  obtain ⟨y, hy, e⟩ := (he x hx).1
  rw [e]; exact names4 _ (h.ok y hy).code
theorem totE_bdd (l : List Elem) (c : List UInt8) (B : Int) (hB : 0 ≤ B) (h : ∀ x ∈ l, -B ≤ x.amount ∧ x.amount ≤ B) : -(l.length * B : Int) ≤ totE l c ∧ totE l c ≤ l.length * B := by
  induction l with
  | nil => simp [totE]
  | cons a l ih =>
    have h1 := ih (fun x hx => h x (by simp [hx]))
    have h2 := h a (by simp)
    simp only [totE, List.length_cons]
    have e9 : ((l.length + 1 : Nat) : Int) * B = (l.length : Int) * B + B := by rw [Int.natCast_add, Int.add_mul]; omega
    rw [e9]
    split <;> omega
theorem condS_bdd (p : ByteArray → Bool) (l : List Elem) (B : Int) (hB : 0 ≤ B) (h : ∀ x ∈ l, -B ≤ x.amount ∧ x.amount ≤ B) : -(l.length * B : Int) ≤ condS p l ∧ condS p l ≤ l.length * B := by
  induction l with
  | nil => simp [condS]
  | cons a l ih =>
    have h1 := ih (fun x hx => h x (by simp [hx]))
    have h2 := h a (by simp)
    simp only [condS, List.length_cons]
    have e9 : ((l.length + 1 : Nat) : Int) * B = (l.length : Int) * B + B := by rw [Int.natCast_add, Int.add_mul]; omega
    rw [e9]
    split <;> omega
theorem amtB_mk {n : Int} (h1 : -1000000000 ≤ n) (h2 : n ≤ 1000000000) : amtB n = true := by simp [amtB, h1, h2]
/-- No error: few elements, names, amounts and sums in range. -/
theorem preErr_ok {l : List Elem} (hl : l.length ≤ 128) (hn : ∀ x ∈ l, nameB x.code = true) (ha : ∀ x ∈ l, amtB x.amount = true) (hs : ∀ c, amtB (totE l c) = true) : preErr l = 0 := by
  have h7 : l.any (fun x => !nameB x.code) = false := by
    rw [List.any_eq_false]; intro x hx; simp [hn x hx]
  have h2 : l.any (fun x => !amtB x.amount) = false := by
    rw [List.any_eq_false]; intro x hx; simp [ha x hx]
  have h4 : (sumsP l).any (fun x => !amtB x.amount) = false := by
    cases hh : (sumsP l).any (fun x => !amtB x.amount)
    · rfl
    · obtain ⟨c, _, hc2⟩ := (over_iff l).1 hh
      rw [hs c] at hc2; cases hc2
  simp only [preErr, if_neg (show ¬ 128 < l.length by omega), h7, h2, h4, Bool.false_eq_true, if_false]
theorem GenE.pre {ws : List WageT} {es : List Elem} (h : GenW 4 ws) (he : GenE ws es) (hl : es.length ≤ 100) : preErr es = 0 := by
  have hb : ∀ x ∈ es, -600000 ≤ x.amount ∧ x.amount ≤ 600000 := fun x hx => by have := (he x hx).2; omega
  refine preErr_ok (by omega) (he.name h) (fun x hx => by have := hb x hx; exact amtB_mk (by omega) (by omega)) fun c => ?_
  have := totE_bdd es c 600000 (by omega) hb
  exact amtB_mk (by omega) (by omega)
theorem findW_isSome {ws : List WageT} {y : WageT} (hy : y ∈ ws) : (findW ws y.code).isNone = false := by
  cases hf : findW ws y.code with
  | some z => rfl
  | none =>
    unfold findW at hf
    rw [List.find?_eq_none] at hf
    exact absurd (by simp [hasC]) (hf y hy)
theorem GenE.ofErr {ws : List WageT} {es : List Elem} (h : GenW 4 ws) (he : GenE ws es) (hl : es.length ≤ 100) : ofErr ws es es = 0 := by
  have hb : ∀ x ∈ es, -600000 ≤ x.amount ∧ x.amount ≤ 600000 := fun x hx => by have := (he x hx).2; omega
  have hm : missing ws es = false := by
    rw [missing, List.any_eq_false]
    intro x hx
    obtain ⟨y, hy, e⟩ := (he x hx).1
    rw [e, findW_isSome hy]; simp
  have ha : amtsB (sumB ws es) = true := by
    rw [sumB_eq]
    have hc : ∀ p, amtB (condS p es) = true := fun p => by
      have := condS_bdd p es 600000 (by omega) hb
      exact amtB_mk (by omega) (by omega)
    simp only [amtsB, hc, Bool.and_self]
  simp only [Go.Proofs.Ytlfefcfddpmccaa.ofErr, h.valid, he.pre h hl, hm, ha, Bool.true_eq_false, Bool.false_eq_true, if_false, ne_eq, not_true_eq_false]
def plusB (x y : BasesT) : BasesT := ⟨x.g + y.g, x.c + y.c, x.t + y.t, x.i + y.i, x.a + y.a⟩
theorem sumB_append (ws : List WageT) (l m : List Elem) : sumB ws (m ++ l) = plusB (sumB ws l) (sumB ws m) := by
  simp only [sumB_eq, plusB, condS_append, Int.add_comm]
theorem GenE.append {ws : List WageT} {l m : List Elem} (h1 : GenE ws l) (h2 : GenE ws m) : GenE ws (l ++ m) := fun x hx => by
  rcases List.mem_append.1 hx with h | h
  · exact h1 x h
  · exact h2 x h
theorem ofV_gen {ws : List WageT} {es : List Elem} (h : GenW 4 ws) (he : GenE ws es) (hl : es.length ≤ 100) : ofV ws es es = .tuple #[.agg (encB (sumB ws es)).toArray, .int .i64 0] := by
  rw [ofV, he.ofErr h hl, if_pos rfl]
theorem sumB_bdd {ws : List WageT} {es : List Elem} (he : GenE ws es) (hl : es.length ≤ 100) : BddB 60000000 (sumB ws es) := by
  have hb : ∀ x ∈ es, -600000 ≤ x.amount ∧ x.amount ≤ 600000 := fun x hx => by have := (he x hx).2; omega
  have hc : ∀ p, -60000000 ≤ condS p es ∧ condS p es ≤ 60000000 := fun p => by
    have := condS_bdd p es 600000 (by omega) hb
    omega
  rw [sumB_eq]
  exact ⟨hc _, hc _, hc _, hc _, hc _⟩

/- Differences. -/
def negE (x : Elem) : Elem := ⟨x.code, -x.amount⟩
def subL (x y : List Elem) : List Elem := (y.map negE).foldl put x
def subErr (a b : List Elem) : Int := if preErr a ≠ 0 then preErr a else if preErr b ≠ 0 then preErr b else if (subL (mergeR a) (mergeR b)).any (fun x => !amtB x.amount) then 4 else 0
def subR (a b : List Elem) : List Elem := if subErr a b = 0 then (subL (mergeR a) (mergeR b)).filter nz else []
theorem totE_neg (l : List Elem) (c : List UInt8) : totE (l.map negE) c = -totE l c := by
  induction l with
  | nil => simp [totE]
  | cons a l ih =>
    simp only [List.map_cons, totE, ih, negE]
    split <;> omega
theorem keyE_neg (l : List Elem) (c : List UInt8) : keyE (l.map negE) c = keyE l c := by
  simp only [keyE, List.any_map]
  rfl
theorem mergeR_sorted (l : List Elem) : SortedE (mergeR l) := by
  rw [mergeR]; split
  · exact (sumsP_sorted l).filter _
  · exact List.Pairwise.nil
theorem subL_facts {x : List Elem} (hx : SortedE x) (y : List Elem) : SortedE (subL x y) ∧ (∀ c, totE (subL x y) c = totE x c - totE y c) ∧ ∀ c, keyE (subL x y) c = (keyE x c || keyE y c) := by
  obtain ⟨h1, h2, h3⟩ := foldl_facts (y.map negE) x hx
  refine ⟨h1, fun c => ?_, fun c => ?_⟩
  · rw [subL, h2, totE_neg]; omega
  · rw [subL, h3, keyE_neg]
theorem totE_filter (l : List Elem) (c : List UInt8) : totE (l.filter nz) c = totE l c := by
  induction l with
  | nil => rfl
  | cons a l ih =>
    rw [List.filter_cons]
    by_cases h : nz a = true
    · rw [if_pos h]; simp only [totE, ih]
    · rw [if_neg h]
      have h0 : a.amount = 0 := by simpa [nz] using h
      simp only [totE, ih, h0]
      split <;> omega
theorem totE_merge {l : List Elem} (h : preErr l = 0) (c : List UInt8) : totE (mergeR l) c = totE l c := by
  rw [mergeR, if_pos h, totE_filter, sumsP_tot]
theorem keyE_of_tot {l : List Elem} {c : List UInt8} (h : totE l c ≠ 0) : keyE l c = true := by
  cases hk : keyE l c
  · exfalso
    apply h
    apply tot_out
    intro x hx e
    rw [keyE, List.any_eq_false] at hk
    exact hk x hx (by simp [e])
  · rfl
theorem mem_merge {l : List Elem} (h : preErr l = 0) (x : Elem) : x ∈ mergeR l ↔ (x.amount = totE l x.code.data.toList ∧ x.amount ≠ 0) := by
  rw [mergeR, if_pos h, List.mem_filter, mem_sorted (sumsP_sorted l), sumsP_key, sumsP_tot]
  constructor
  · rintro ⟨⟨_, h1⟩, h2⟩; exact ⟨h1, by simpa [nz] using h2⟩
  · rintro ⟨h1, h2⟩; exact ⟨⟨keyE_of_tot (by omega), h1⟩, by simpa [nz] using h2⟩
theorem merge_ext {l m : List Elem} (hl : preErr l = 0) (hm : preErr m = 0) (h : ∀ c, totE l c = totE m c) : mergeR l = mergeR m := by
  refine sorted_ext (mergeR_sorted l) (mergeR_sorted m) fun x => ?_
  rw [mem_merge hl, mem_merge hm, h]
theorem mergeR_amt {l : List Elem} : ∀ x ∈ mergeR l, amtB x.amount = true := fun x hx => by
  by_cases h : preErr l = 0
  · rw [mergeR, if_pos h, List.mem_filter] at hx
    cases hh : amtB x.amount
    · exfalso
      have h4 : (sumsP l).any (fun x => !amtB x.amount) = true := List.any_eq_true.2 ⟨x, hx.1, by simp [hh]⟩
      have : preErr l ≠ 0 := by
        rw [preErr]
        split
        · omega
        · split
          · omega
          · split
            · omega
            · first | omega | (rw [if_pos h4]; omega)
      exact this h
    · rfl
  · rw [mergeR, if_neg h] at hx; cases hx
theorem mergeR_codes {l : List Elem} {x : Elem} (hx : x ∈ mergeR l) : ∃ y ∈ l, y.code = x.code := by
  rw [mergeR] at hx
  split at hx
  · exact sumsP_codes (List.mem_filter.1 hx).1
  · cases hx
theorem subL_length (x y : List Elem) : (subL x y).length ≤ x.length + y.length := by
  have := foldl_put_length (y.map negE) x
  simpa [subL] using this
/-- What both sides of the law on differences come to. -/
theorem subtract_law {ws : List WageT} {a b : List Elem} (h : GenW 4 ws) (ha : GenE ws a) (hb : GenE ws b) (hla : a.length ≤ 6) (hlb : b.length ≤ 6) :
    subErr a b = 0 ∧ preErr (b ++ subR a b) = 0 ∧ preErr a = 0 ∧ mergeR (b ++ subR a b) = mergeR a ∧ (subR a b).length ≤ 300 ∧ ∀ x ∈ subR a b, x.code.size ≤ maxLen := by
  have pa := ha.pre h (by omega)
  have pb := hb.pre h (by omega)
  have ba : ∀ x ∈ a, -600000 ≤ x.amount ∧ x.amount ≤ 600000 := fun x hx => by have := (ha x hx).2; omega
  have bb : ∀ x ∈ b, -600000 ≤ x.amount ∧ x.amount ≤ 600000 := fun x hx => by have := (hb x hx).2; omega
  obtain ⟨s1, s2, s3⟩ := subL_facts (mergeR_sorted a) (mergeR b)
  have ta := fun c => totE_bdd a c 600000 (by omega) ba
  have tb := fun c => totE_bdd b c 600000 (by omega) bb
  have tL : ∀ c, totE (subL (mergeR a) (mergeR b)) c = totE a c - totE b c := fun c => by rw [s2, totE_merge pa, totE_merge pb]
  have hLb : ∀ x ∈ subL (mergeR a) (mergeR b), -7200000 ≤ x.amount ∧ x.amount ≤ 7200000 := fun x hx => by
    rw [mem_sorted s1] at hx
    rw [hx.2, tL]
    have h1 := ta x.code.data.toList
    have h2 := tb x.code.data.toList
    omega
  have he : subErr a b = 0 := by
    rw [subErr, if_neg (by simp [pa]), if_neg (by simp [pb]), if_neg]
    simp only [List.any_eq_true, not_exists, not_and]
    intro x hx
    have := hLb x hx
    rw [amtB_mk (by omega) (by omega)]; simp
  have hR : subR a b = (subL (mergeR a) (mergeR b)).filter nz := by rw [subR, if_pos he]
  have hcodes : ∀ x ∈ subR a b, ∃ y, (y ∈ a ∨ y ∈ b) ∧ y.code = x.code := fun x hx => by
    rw [hR, List.mem_filter, mem_sorted s1, s3] at hx
    have hk := hx.1.1
    rw [Bool.or_eq_true] at hk
    rcases hk with hk | hk
    · obtain ⟨z, hz, e⟩ := List.any_eq_true.1 hk
      obtain ⟨y, hy, e2⟩ := mergeR_codes hz
      exact ⟨y, .inl hy, by rw [e2]; exact code_ext (by simpa using e)⟩
    · obtain ⟨z, hz, e⟩ := List.any_eq_true.1 hk
      obtain ⟨y, hy, e2⟩ := mergeR_codes hz
      exact ⟨y, .inr hy, by rw [e2]; exact code_ext (by simpa using e)⟩
  have htot : ∀ c, totE (b ++ subR a b) c = totE a c := fun c => by
    rw [totE_append, hR, totE_filter, tL]; omega
  have hmla : (mergeR a).length ≤ 6 := by
    rw [mergeR, if_pos pa]; exact Nat.le_trans (List.length_filter_le _ _) (Nat.le_trans (sumsP_length a) hla)
  have hmlb : (mergeR b).length ≤ 6 := by
    rw [mergeR, if_pos pb]; exact Nat.le_trans (List.length_filter_le _ _) (Nat.le_trans (sumsP_length b) hlb)
  have hlen : (subR a b).length ≤ 12 := by
    rw [hR]
    have h1 := List.length_filter_le nz (subL (mergeR a) (mergeR b))
    have h2 := subL_length (mergeR a) (mergeR b)
    omega
  have hp : preErr (b ++ subR a b) = 0 := by
    refine preErr_ok (by simp; omega) (fun x hx => ?_) (fun x hx => ?_) (fun c => ?_)
    · rcases List.mem_append.1 hx with hx | hx
      · exact hb.name h x hx
      · obtain ⟨y, hy, e⟩ := hcodes x hx
        rw [← e]
        rcases hy with hy | hy
        · exact ha.name h y hy
        · exact hb.name h y hy
    · rcases List.mem_append.1 hx with hx | hx
      · have := bb x hx; exact amtB_mk (by omega) (by omega)
      · rw [hR, List.mem_filter] at hx
        have := hLb x hx.1; exact amtB_mk (by omega) (by omega)
    · rw [htot]
      have := ta c
      exact amtB_mk (by omega) (by omega)
  refine ⟨he, hp, pa, merge_ext hp pa htot, by omega, fun x hx => ?_⟩
  have h24 : ∀ c ∈ codes4, c.size ≤ 24 := by decide
  obtain ⟨y, hy, e⟩ := hcodes x hx
  rw [← e]
  rcases hy with hy | hy
  · obtain ⟨z, hz, e2⟩ := (ha y hy).1
    rw [e2]; exact Nat.le_trans (h24 _ (h.ok z hz).code) (by unfold maxLen; omega)
  · obtain ⟨z, hz, e2⟩ := (hb y hy).1
    rw [e2]; exact Nat.le_trans (h24 _ (h.ok z hz).code) (by unfold maxLen; omega)

end Go.Proofs.Ytlfefcfddpmccaa
