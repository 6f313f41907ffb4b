/- Plain laws: what a deduction got; stops; caps. Conditions: as stated. -/
import Derived.Test.YtcpkdpflkjjlcaaAddP
namespace Go.Proofs.Ytcpkdpflkjjlcaa
open Go.RowKit

theorem perm_of {α : Type} (code : α → ByteArray) : ∀ {l m : List α}, l.Pairwise (fun a b => code a ≠ code b) → m.Pairwise (fun a b => code a ≠ code b) → (∀ x, x ∈ l ↔ x ∈ m) → l.Perm m
  | [], [], _, _, _ => List.Perm.nil
  | [], b :: s, _, _, h => by have := (h b).2 (by simp); simp at this
  | a :: r, m, h1, h2, h => by
    obtain ⟨a1, a2⟩ := List.pairwise_cons.1 h1
    have hm : a ∈ m := (h a).1 (by simp)
    obtain ⟨s, t, rfl⟩ := List.append_of_mem hm
    have hp : (s ++ a :: t).Perm (a :: (s ++ t)) := List.perm_middle
    have h2' := h2.perm hp (fun h e => h e.symm)
    obtain ⟨b1, b2⟩ := List.pairwise_cons.1 h2'
    refine (List.Perm.cons a (perm_of code a2 b2 (fun x => ?_))).trans hp.symm
    constructor
    · intro hx
      have := (h x).1 (by simp [hx])
      have h3 := hp.mem_iff.1 this
      rcases List.mem_cons.1 h3 with e | h3
      · subst e; exact absurd rfl (a1 x hx)
      · exact h3
    · intro hx
      have := (h x).2 (hp.mem_iff.2 (by simp [hx]))
      rcases List.mem_cons.1 this with e | h3
      · subst e; exact absurd rfl (b1 x hx)
      · exact h3
theorem ordD_perm {l : List DedT} (hv : validD l = true) : (ordD l).Perm l := by
  obtain ⟨_, hok, hasc⟩ := validD_iff.1 hv
  exact perm_of DedT.code (ordD_code hv) (hasc.imp (by
    intro a b hab e
    rw [e, less_eq] at hab
    exact List.lt_irrefl _ (of_decide_eq_true hab))) (mem_ordD hok)

section
variable {before : Bool} {base : Int} {year : List Elem}
theorem totE_tk_out {P : List DedT} {c : ByteArray} (h : ∀ d ∈ P, d.code ≠ c) : ∀ a, totE (tk before base year P a) c.data.toList = 0 := by
  induction P with
  | nil => intro a; rfl
  | cons d r ih =>
    intro a
    have hd : ¬ d.code.data.toList = c.data.toList := fun e => h d (by simp) (code_ext e)
    rw [tk, totE_append, ih (fun x hx => h x (by simp [hx]))]
    split
    · simp [totE, hd]
    · simp [totE]
/-- What a deduction got. -/
theorem got_eq {P Q : List DedT} {d : DedT} {a : Int} (hc : (P ++ d :: Q).Pairwise (fun a b => a.code ≠ b.code)) (hn : 0 ≤ amtT before base year d (rst before base year P a)) :
    atE (sumsP (tk before base year (P ++ d :: Q) a)) d.code = amtT before base year d (rst before base year P a) := by
  obtain ⟨h1, h2, h3⟩ := List.pairwise_append.1 hc
  obtain ⟨h4, h5⟩ := List.pairwise_cons.1 h2
  rw [atE_tot (sumsP_sorted _), sumsP_tot, tk_append, totE_append, totE_tk_out (fun x hx => h3 x hx d (by simp)), tk, totE_append, totE_tk_out (fun x hx e => h4 x hx e.symm)]
  split
  · simp [totE]
  · simp only [totE]; omega
end

/-- What holds of what was taken. -/
structure StopOk (l : List DedT) (before : Bool) (b n : Int) (year ms : List Elem) : Prop where
  sum : sumE ms ≤ n
  nonneg : ∀ x ∈ ms, 0 ≤ x.amount ∧ x.amount ≤ 1000000000000
  len : ms.length ≤ 16
  got : ∀ d ∈ l, d.before = before → atE ms d.code ≤ wantN d b (atE year d.code)
  other : ∀ d ∈ l, d.before ≠ before → atE ms d.code = 0
  stop : ∀ d ∈ l, d.before = before → atE ms d.code < wantN d b (atE year d.code) → ∀ e ∈ l, LtD d e → atE ms e.code = 0
theorem stops {l : List DedT} (before : Bool) {b n : Int} (year : List Elem) (hv : validD l = true) (h1 : 0 ≤ b) (h2 : b ≤ 1000000000) (h3 : 0 ≤ n) (h4 : n ≤ 1000000000) : StopOk l before b n year (sumsP (tk before b year (ordD l) n)) := by
  obtain ⟨hlen, hok, hasc⟩ := validD_iff.1 hv
  have hok' : ∀ x ∈ ordD l, DedOk x := fun x hx => hok x ((mem_ordD hok x).1 hx)
  have hcode := ordD_code hv
  have hsort := ordD_sorted hasc
  have split_ : ∀ d ∈ l, ∃ P Q, ordD l = P ++ d :: Q := fun d hd => List.append_of_mem ((mem_ordD hok d).2 hd)
  have hP : ∀ {P Q : List DedT} {d : DedT}, ordD l = P ++ d :: Q → (∀ x ∈ P, DedOk x) ∧ DedOk d ∧ 0 ≤ rst before b year P n ∧ atE (sumsP (tk before b year (ordD l) n)) d.code = amtT before b year d (rst before b year P n) := by
    intro P Q d e
    have k1 : ∀ x ∈ P, DedOk x := fun x hx => hok' x (by rw [e]; simp [hx])
    have k2 : DedOk d := hok' d (by rw [e]; simp)
    have k3 := rst_bd (before := before) (year := year) k1 h1 h2 n h3
    refine ⟨k1, k2, k3.1, ?_⟩
    rw [e] at hcode ⊢
    exact got_eq hcode (amtT_bd k2 h1 h2 k3.1).1
  refine ⟨?_, ?_, ?_, ?_, ?_, ?_⟩
  · rw [sumE_sumsP, sumE_tk _ hok' h1 h2 n h3]
    have := rst_bd (before := before) (year := year) hok' h1 h2 n h3
    omega
  · intro x hx
    have := taken_bd hok' before year h1 h2 h3 x hx
    omega
  · have := taken_len (ordD l) before b year n
    have := (ordD_perm hv).length_eq
    omega
  · intro d hd hb
    obtain ⟨P, Q, e⟩ := split_ d hd
    obtain ⟨_, _, _, hg⟩ := hP e
    rw [hg, amtT, if_pos hb]
    omega
  · intro d hd hb
    obtain ⟨P, Q, e⟩ := split_ d hd
    obtain ⟨_, _, _, hg⟩ := hP e
    rw [hg, amtT_other hb]
  · intro d hd hb hlt x hx hdx
    obtain ⟨P, Q, e⟩ := split_ d hd
    obtain ⟨k1, k2, k3, hg⟩ := hP e
    have hxQ : x ∈ Q := by
      have hxo := (mem_ordD hok x).2 hx
      rw [e] at hxo hsort
      obtain ⟨s1, s2, s3⟩ := List.pairwise_append.1 hsort
      rcases List.mem_append.1 hxo with hxP | hxd
      · exact absurd (LtD.tr _ _ _ hdx (s3 x hxP d (by simp))) (LtD.irr d)
      · rcases List.mem_cons.1 hxd with e1 | h
        · subst e1; exact absurd hdx (LtD.irr x)
        · exact h
    obtain ⟨Q1, Q2, rfl⟩ := List.append_of_mem hxQ
    have e2 : ordD l = (P ++ d :: Q1) ++ x :: Q2 := by rw [e]; simp
    obtain ⟨k4, k5, k6, hg2⟩ := hP e2
    have hzero : rst before b year (P ++ [d]) n = 0 := by
      rw [rst_snoc]
      rw [hg] at hlt
      rw [amtT, if_pos hb] at hlt ⊢
      omega
    have hz2 : rst before b year (P ++ d :: Q1) n = 0 := by
      have e3 : P ++ d :: Q1 = (P ++ [d]) ++ Q1 := by simp
      rw [e3, rst_append, hzero]
      have := rst_bd (before := before) (year := year) (P := Q1) (fun y hy => k4 y (by simp [hy])) h1 h2 0 (by omega)
      omega
    rw [hg2, hz2]
    have := amtT_bd (before := before) (year := year) (left := 0) k5 h1 h2 (by omega)
    omega

theorem totE_nz (l : List Elem) (c : List UInt8) : totE (l.filter nz) c = totE l c := by
  induction l with
  | nil => rfl
  | cons a l ih =>
    rw [List.filter_cons]
    split
    · simp only [totE, ih]
    · rename_i h
      have : a.amount = 0 := by simpa [nz] using h
      simp only [totE, ih]
      split <;> omega
theorem keyE_mem {l : List Elem} {c : List UInt8} (h : keyE l c = true) : ∃ x ∈ l, x.code.data.toList = c := by
  obtain ⟨x, hx, e⟩ := List.any_eq_true.1 h
  exact ⟨x, hx, by simpa using e⟩

/-- A year in which the caps are kept, after k periods. -/
structure CapOk (ds : List DedT) (k : Nat) (ys : List Elem) : Prop where
  rec_ : recB ys = true
  len : ys.length ≤ 16 * k
  bd : ∀ x ∈ ys, x.amount ≤ 600000 * k
  cap : ∀ d ∈ ds, 0 < d.cap → atE ys d.code ≤ d.cap
theorem CapOk.zero (ds : List DedT) : CapOk ds 0 [] := ⟨by decide, by simp, by simp, fun d hd h1 => by show (0 : Int) ≤ _; omega⟩
theorem totE_le_bd {l : List Elem} {B : Int} (hs : SortedE l) (hB : 0 ≤ B) (h : ∀ x ∈ l, x.amount ≤ B) (c : List UInt8) : totE l c ≤ B := by
  by_cases hk : keyE l c = true
  · obtain ⟨x, hx, rfl⟩ := keyE_mem hk
    have := (mem_sorted hs x).1 hx
    rw [← this.2]
    exact h x hx
  · have : totE l c = 0 := tot_out (fun x hx e => hk (List.any_eq_true.2 ⟨x, hx, by simp [e]⟩))
    omega
theorem CapOk.step {ds : List DedT} {k : Nat} {ys : List Elem} (h : CapOk ds k ys) (hk : k < 8) (hv : validD ds = true) {b n : Int} (h1 : 0 ≤ b) (h2 : b < 600000) (h3 : 0 ≤ n) (h4 : n < 600000) :
    takeE ds b n ys = 0 ∧ addE ys (takeR ds false b n ys) = 0 ∧ sumE (addR ys (takeR ds false b n ys)) = sumE ys + sumE (takeR ds false b n ys) ∧ CapOk ds (k + 1) (addR ys (takeR ds false b n ys)) ∧
      (∀ x ∈ takeR ds false b n ys, (0 ≤ x.amount ∧ x.amount ≤ 1000000000000) ∧ x.code.size ≤ maxLen) ∧ (takeR ds false b n ys).length ≤ 16 := by
  obtain ⟨hlen, hok, hasc⟩ := validD_iff.1 hv
  obtain ⟨ylen, yok, ysort⟩ := recB_iff.1 h.rec_
  have hE := takeE_0 hv h.rec_ (inB_iff.2 ⟨h1, by omega⟩) (inB_iff.2 ⟨h3, by omega⟩)
  have hok' : ∀ x ∈ ordD ds, DedOk x := fun x hx => hok x ((mem_ordD hok x).1 hx)
  have hS := stops false ys hv h1 (by omega) h3 (by omega)
  have hR := takeR_ok (before := false) hE
  rw [← hR] at hS
  have hmem : ∀ x ∈ takeR ds false b n ys, (∃ d ∈ ds, x.code = d.code) ∧ 0 ≤ x.amount ∧ x.amount ≤ n := by
    intro x hx
    rw [hR] at hx
    refine ⟨?_, taken_bd hok' false ys h1 (by omega) h3 x hx⟩
    obtain ⟨y, hy, e⟩ := sumsP_codes hx
    obtain ⟨⟨d, hd, e2⟩, _⟩ := tk_mem hok' h1 (by omega) n h3 y hy
    exact ⟨d, (mem_ordD hok d).1 hd, by rw [← e, e2]⟩
  have hsrt : SortedE (takeR ds false b n ys) := by rw [hR]; exact sumsP_sorted _
  generalize takeR ds false b n ys = ps at hS hmem hsrt
  have hall : ps.all addB = true := by
    rw [List.all_eq_true]
    intro x hx
    obtain ⟨⟨d, hd, e⟩, g1, g2⟩ := hmem x hx
    exact (addB_iff x).2 ⟨by rw [e]; exact (hok d hd).name, g1, by omega⟩
  have hol : (addO ys ps).length ≤ 16 * (k + 1) := by
    have g1 := List.length_filter_le nz (ps.foldl put ys)
    have g2 := foldl_put_length ps ys
    have g3 := hS.len
    have g4 := h.len
    unfold addO
    omega
  have hamt : ∀ x ∈ addO ys ps, 0 ≤ x.amount ∧ x.amount ≤ 600000 * (k + 1) := by
    intro x hx
    obtain ⟨_, g2, _⟩ := (mem_addO ysort x).1 hx
    rw [g2, totE_append]
    have a1 := totE_le_bd ysort (by omega) h.bd x.code.data.toList
    have a2 := totE_le_bd hsrt (show (0 : Int) ≤ 600000 by omega) (fun y hy => by have := (hmem y hy).2.2; omega) x.code.data.toList
    have b1 := (totE_le (l := ys) (fun y hy => (yok y hy).2.1) x.code.data.toList).1
    have b2 := (totE_le (l := ps) (fun y hy => (hmem y hy).2.1) x.code.data.toList).1
    omega
  have hbig : anyBig (addO ys ps) = false := by
    rw [anyBig, List.any_eq_false]
    intro x hx
    have := hamt x hx
    simp [big]; omega
  have hA : addE ys ps = 0 := by
    rw [addE_4 h.rec_ hall (by have := hS.len; omega) (by omega), hbig]; rfl
  refine ⟨hE, hA, ?_, ?_, ?_, hS.len⟩
  · rw [addR_ok hA, addO, sumE_nz, sumE_foldl]
  · rw [addR_ok hA]
    refine ⟨recB_iff.2 ⟨by omega, fun x hx => ?_, addO_sorted ps ysort⟩, hol, fun x hx => by have := (hamt x hx).2; omega, fun d hd hc => ?_⟩
    · have := hamt x hx
      refine ⟨?_, by omega, by omega⟩
      obtain ⟨g1, _, _⟩ := (mem_addO ysort x).1 hx
      obtain ⟨y, hy, e⟩ := keyE_mem g1
      have hyx : y.code = x.code := code_ext e
      rw [← hyx]
      rcases List.mem_append.1 hy with hy | hy
      · exact (yok y hy).1
      · obtain ⟨⟨d, hd, e2⟩, _⟩ := hmem y hy
        rw [e2]; exact (hok d hd).name
    · rw [atE_tot (addO_sorted ps ysort), addO, totE_nz, (addAll ps ysort).2.1, totE_append, ← atE_tot ysort, ← atE_tot hsrt]
      have hcap := h.cap d hd hc
      by_cases hb : d.before = false
      · have g1 := hS.got d hd hb
        have g2 := wantN_cap (d := d) (base := b) hc hcap
        omega
      · rw [hS.other d hd hb]
        omega
  · intro x hx
    obtain ⟨⟨d, hd, e⟩, g1, g2⟩ := hmem x hx
    refine ⟨⟨g1, by omega⟩, ?_⟩
    have hn := (hok d hd).name
    rw [e]
    simp only [nameB, Bool.and_eq_true, decide_eq_true_eq] at hn
    exact Nat.le_trans hn.1.1.2 (by unfold maxLen; omega)
theorem CapOk.size {ds : List DedT} {k : Nat} {ys : List Elem} (h : CapOk ds k ys) : ∀ x ∈ ys, x.code.size ≤ maxLen := by
  intro x hx
  have hn := ((recB_iff.1 h.rec_).2.1 x hx).1
  simp only [nameB, Bool.and_eq_true, decide_eq_true_eq] at hn
  exact Nat.le_trans hn.1.1.2 (by unfold maxLen; omega)

end Go.Proofs.Ytcpkdpflkjjlcaa
