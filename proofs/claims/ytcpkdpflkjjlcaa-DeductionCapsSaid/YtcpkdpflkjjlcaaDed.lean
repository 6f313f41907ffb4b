/- Deductions: the type, what is valid, what a record is, what a deduction wants, what is taken, what is added. Plain definitions. Conditions: none. -/
import Derived.Test.YtcpkdpflkjjlcaaPlainE
import Derived.Test.YtcpkdpflkjjlcaaRound3
namespace Go.Proofs.Ytcpkdpflkjjlcaa
open Go.RowKit

structure DedT where
  code : ByteArray
  rank : Int
  before : Bool
  amount : Int
  rate : Int
  cap : Int
deriving DecidableEq
def encD (x : DedT) : List Value := [.string x.code, .int .i64 x.rank, .bool x.before, .int .i64 x.amount, .int .i64 x.rate, .int .i64 x.cap]
theorem encD_len (x : DedT) : (encD x).length = 6 := rfl
theorem encD_one (x : DedT) : ∀ u ∈ encD x, u.oneCell' = true := by intro u hu; simp [encD] at hu; rcases hu with rfl | rfl | rfl | rfl | rfl | rfl <;> rfl
def aggD (x : DedT) : Value := .agg #[.string x.code, .int .i64 x.rank, .bool x.before, .int .i64 x.amount, .int .i64 x.rate, .int .i64 x.cap]
theorem infoD : (Try.prog.info? 33).map (fun i => (i.zero, i.size, i.bytes)) = some (some (.agg #[.string ⟨#[]⟩, .int .i64 0, .bool false, .int .i64 0, .int .i64 0, .int .i64 0]), 6, 56) := by kernel_rfl

def inB (n m : Int) : Bool := decide (0 ≤ n ∧ n ≤ m)
theorem inB_iff {n m : Int} : inB n m = true ↔ 0 ≤ n ∧ n ≤ m := by simp [inB]
theorem inB_no {n m : Int} : inB n m = false ↔ (n < 0 ∨ m < n) := by simp [inB]; omega
theorem inB_lo {n m : Int} (h : inB n m = true) : 0 ≤ n := (inB_iff.1 h).1
theorem inB_hi {n m : Int} (h : inB n m = true) : n ≤ m := (inB_iff.1 h).2

/-- The code at place i is greater than the one ahead of it. -/
def ascAt {α : Type} (code : α → ByteArray) (xs : List α) (i : Nat) (x : α) : Bool := decide (i = 0) || (match xs[i - 1]? with | some p => Op.bytesLess (code p).toList (code x).toList | none => true)
theorem ascAt_zero {α : Type} (code : α → ByteArray) (xs : List α) (x : α) : ascAt code xs 0 x = true := by simp [ascAt]
theorem ascAt_succ {α : Type} (code : α → ByteArray) (xs : List α) (m : Nat) (x : α) (h : m < xs.length) : ascAt code xs (m + 1) x = Op.bytesLess (code xs[m]).toList (code x).toList := by
  simp [ascAt, List.getElem?_eq_getElem h]

def okD (xs : List DedT) (i : Nat) (x : DedT) : Bool := nameB x.code && ascAt DedT.code xs i x && inB x.rank 99 && inB x.amount 1000000000 && inB x.cap 1000000000 && inB x.rate 1000000
def okR (xs : List Elem) (i : Nat) (x : Elem) : Bool := nameB x.code && ascAt Elem.code xs i x && inB x.amount 1000000000000
def allOk {α : Type} (ok : List α → Nat → α → Bool) (n : Nat) (xs : List α) : Bool := decide (xs.length ≤ n) && decide (∀ i, (h : i < xs.length) → ok xs i xs[i] = true)
def validD (xs : List DedT) : Bool := allOk okD 16 xs
def recB (xs : List Elem) : Bool := allOk okR 128 xs
theorem allOk_no {α : Type} {ok : List α → Nat → α → Bool} {n : Nat} {xs : List α} {i : Nat} (h : i < xs.length) (hn : ok xs i xs[i] = false) : allOk ok n xs = false := by
  unfold allOk
  simp only [Bool.and_eq_false_iff, decide_eq_false_iff_not]
  right
  intro hh
  have := hh i h
  rw [hn] at this
  cases this
theorem allOk_yes {α : Type} {ok : List α → Nat → α → Bool} {n : Nat} {xs : List α} (hl : xs.length ≤ n) (h : ∀ i, (h : i < xs.length) → ok xs i xs[i] = true) : allOk ok n xs = true := by
  unfold allOk
  simp only [Bool.and_eq_true, decide_eq_true_eq]
  exact ⟨hl, h⟩
theorem allOk_long {α : Type} {ok : List α → Nat → α → Bool} {n : Nat} {xs : List α} (hl : n < xs.length) : allOk ok n xs = false := by
  unfold allOk
  simp only [Bool.and_eq_false_iff, decide_eq_false_iff_not]
  exact .inl (by omega)
theorem allOk_iff {α : Type} {ok : List α → Nat → α → Bool} {n : Nat} {xs : List α} : allOk ok n xs = true ↔ xs.length ≤ n ∧ ∀ i, (h : i < xs.length) → ok xs i xs[i] = true := by
  unfold allOk
  simp only [Bool.and_eq_true, decide_eq_true_eq]

/-- What every valid deduction fulfils. -/
structure DedOk (d : DedT) : Prop where
  name : nameB d.code = true
  r0 : 0 ≤ d.rank
  r1 : d.rank ≤ 99
  a0 : 0 ≤ d.amount
  a1 : d.amount ≤ 1000000000
  c0 : 0 ≤ d.cap
  c1 : d.cap ≤ 1000000000
  t0 : 0 ≤ d.rate
  t1 : d.rate ≤ 1000000
theorem okD_ok {xs : List DedT} {i : Nat} {x : DedT} (h : okD xs i x = true) : DedOk x := by
  simp only [okD, Bool.and_eq_true, inB_iff] at h
  obtain ⟨⟨⟨⟨⟨h1, _⟩, h3, h3'⟩, h4, h4'⟩, h5, h5'⟩, h6, h6'⟩ := h
  exact ⟨h1, h3, h3', h4, h4', h5, h5', h6, h6'⟩
theorem ok_okD {xs : List DedT} {i : Nat} {x : DedT} (h : DedOk x) (ha : ascAt DedT.code xs i x = true) : okD xs i x = true := by
  simp only [okD, Bool.and_eq_true, inB_iff]
  exact ⟨⟨⟨⟨⟨h.name, ha⟩, h.r0, h.r1⟩, h.a0, h.a1⟩, h.c0, h.c1⟩, h.t0, h.t1⟩
theorem validD_one {d : DedT} : validD [d] = true ↔ DedOk d := by
  rw [validD, allOk_iff]
  constructor
  · rintro ⟨_, h⟩
    exact okD_ok (h 0 (by simp))
  · intro h
    refine ⟨by simp, fun i hi => ?_⟩
    obtain rfl : i = 0 := by simp at hi; omega
    exact ok_okD h (ascAt_zero ..)

/-- Codes in ascending order, adjacent ones: all of them. -/
theorem asc_pairwise {α : Type} (code : α → ByteArray) : ∀ (xs : List α), (∀ i, (h : i < xs.length) → ascAt code xs i xs[i] = true) → xs.Pairwise (fun a b => Op.bytesLess (code a).toList (code b).toList = true) := by
  intro xs h
  rw [List.pairwise_iff_getElem]
  have adj : ∀ m, (h1 : m + 1 < xs.length) → (code xs[m]).toList < (code xs[m + 1]).toList := by
    intro m h1
    have h2 := h (m + 1) h1
    rw [ascAt_succ _ _ _ _ (by omega), less_eq] at h2
    simpa using h2
  have far : ∀ d i, (h1 : i + d + 1 < xs.length) → (code (xs[i]'(by omega))).toList < (code xs[i + d + 1]).toList := by
    intro d
    induction d with
    | zero => intro i h1; exact adj i h1
    | succ d ih =>
      intro i h1
      exact List.lt_trans (ih i (by omega)) (adj (i + d + 1) h1)
  intro i j hi hj hij
  obtain ⟨d, rfl⟩ : ∃ d, j = i + d + 1 := ⟨j - i - 1, by omega⟩
  rw [less_eq]
  simpa using far d i hj
theorem pairwise_asc {α : Type} (code : α → ByteArray) {xs : List α} (h : xs.Pairwise (fun a b => Op.bytesLess (code a).toList (code b).toList = true)) (i : Nat) (hi : i < xs.length) : ascAt code xs i xs[i] = true := by
  cases i with
  | zero => exact ascAt_zero ..
  | succ m =>
    rw [ascAt_succ _ _ _ _ (by omega)]
    exact List.pairwise_iff_getElem.1 h m (m + 1) (by omega) hi (by omega)
theorem validD_iff {xs : List DedT} : validD xs = true ↔ xs.length ≤ 16 ∧ (∀ x ∈ xs, DedOk x) ∧ xs.Pairwise (fun a b => Op.bytesLess a.code.toList b.code.toList = true) := by
  rw [validD, allOk_iff]
  constructor
  · rintro ⟨h1, h2⟩
    refine ⟨h1, fun x hx => ?_, asc_pairwise DedT.code xs fun i hi => ?_⟩
    · obtain ⟨i, hi, rfl⟩ := List.mem_iff_getElem.1 hx
      exact okD_ok (h2 i hi)
    · have := h2 i hi
      simp only [okD, Bool.and_eq_true] at this
      exact this.1.1.1.1.2
  · rintro ⟨h1, h2, h3⟩
    exact ⟨h1, fun i hi => ok_okD (h2 _ (List.getElem_mem hi)) (pairwise_asc DedT.code h3 i hi)⟩
theorem recB_iff {xs : List Elem} : recB xs = true ↔ xs.length ≤ 128 ∧ (∀ x ∈ xs, nameB x.code = true ∧ 0 ≤ x.amount ∧ x.amount ≤ 1000000000000) ∧ SortedE xs := by
  rw [recB, allOk_iff]
  constructor
  · rintro ⟨h1, h2⟩
    refine ⟨h1, fun x hx => ?_, asc_pairwise Elem.code xs fun i hi => ?_⟩
    · obtain ⟨i, hi, rfl⟩ := List.mem_iff_getElem.1 hx
      have := h2 i hi
      simp only [okR, Bool.and_eq_true, inB_iff] at this
      exact ⟨this.1.1, this.2⟩
    · have := h2 i hi
      simp only [okR, Bool.and_eq_true] at this
      exact this.1.2
  · rintro ⟨h1, h2, h3⟩
    refine ⟨h1, fun i hi => ?_⟩
    obtain ⟨g1, g2⟩ := h2 _ (List.getElem_mem hi)
    simp only [okR, Bool.and_eq_true, inB_iff]
    exact ⟨⟨g1, pairwise_asc Elem.code h3 i hi⟩, g2⟩

/- What a deduction wants. -/
def wantA (d : DedT) (base : Int) : Int := min (d.amount + partN base d.rate 1000000 1 4) 1000000000
def wantN (d : DedT) (base taken : Int) : Int := if 0 < d.cap then min (wantA d base) (max (d.cap - taken) 0) else wantA d base
def wantE (d : DedT) (base taken : Int) : Int := if validD [d] = false then 1 else if inB base 1000000000 = false then 2 else if inB taken 1000000000000 = false then 2 else 0
def wantR (d : DedT) (base taken : Int) : Int := if wantE d base taken = 0 then wantN d base taken else 0
theorem wantA_bd {d : DedT} {base : Int} (h : DedOk d) (h1 : 0 ≤ base) (h2 : base ≤ 1000000000) : partE base d.rate 1000000 1 4 = 0 ∧ 0 ≤ partN base d.rate 1000000 1 4 ∧ partN base d.rate 1000000 1 4 ≤ 1000000000 ∧ 0 ≤ wantA d base ∧ wantA d base ≤ 1000000000 := by
  obtain ⟨a, b, c⟩ := rate_part base d.rate 4 h1 (by omega) h.t0 h.t1 (by decide)
  have := h.a0
  refine ⟨a, b, by omega, ?_, ?_⟩ <;> unfold wantA <;> omega
theorem wantN_bd {d : DedT} {base taken : Int} (h : DedOk d) (h1 : 0 ≤ base) (h2 : base ≤ 1000000000) : 0 ≤ wantN d base taken ∧ wantN d base taken ≤ 1000000000 := by
  obtain ⟨_, _, _, a, b⟩ := wantA_bd h h1 h2
  unfold wantN
  split <;> omega
theorem wantN_cap {d : DedT} {base taken : Int} (h : 0 < d.cap) (ht : taken ≤ d.cap) : wantN d base taken + taken ≤ d.cap := by
  unfold wantN
  rw [if_pos h]
  omega

/-- The amount of a code in a list. -/
def atE (l : List Elem) (c : ByteArray) : Int := match l with | [] => 0 | x :: r => if x.code.toList == c.toList then x.amount else atE r c
theorem atE_skip {l : List Elem} {c : ByteArray} {k : Nat} (hk : k ≤ l.length) (h : ∀ j, (hj : j < l.length) → j < k → (l[j].code.toList == c.toList) = false) : atE l c = atE (l.drop k) c := by
  induction l generalizing k with
  | nil => simp
  | cons a l ih =>
    cases k with
    | zero => simp
    | succ k =>
      have h0 := h 0 (by simp) (by omega)
      simp only [List.getElem_cons_zero] at h0
      rw [atE, h0, List.drop_succ_cons]
      exact ih (by simp at hk; omega) (fun j hj hjk => by have := h (j + 1) (by simp; omega) (by omega); simpa using this)
theorem atE_at {l : List Elem} {c : ByteArray} {k : Nat} (hk : k < l.length) (h : ∀ j, (hj : j < l.length) → j < k → (l[j].code.toList == c.toList) = false) (he : (l[k].code.toList == c.toList) = true) : atE l c = l[k].amount := by
  rw [atE_skip (by omega) h, List.drop_eq_getElem_cons hk, atE, he]; rfl
theorem atE_none {l : List Elem} {c : ByteArray} (h : ∀ j, (hj : j < l.length) → (l[j].code.toList == c.toList) = false) : atE l c = 0 := by
  rw [atE_skip (Nat.le_refl _) (fun j hj _ => h j hj), List.drop_length]; rfl
theorem atE_tot {l : List Elem} (h : SortedE l) (c : ByteArray) : atE l c = totE l c.data.toList := by
  induction l with
  | nil => rfl
  | cons a l ih =>
    obtain ⟨h1, h2⟩ := List.pairwise_cons.1 h
    rw [atE, totE]
    by_cases e : a.code.data.toList = c.data.toList
    · have e' : (a.code.toList == c.toList) = true := by rw [ByteArray.toList_eq, ByteArray.toList_eq]; simpa using e
      rw [e', if_pos rfl, if_pos e, tot_out (fun x hx hxe => by
        have := h1 x hx
        rw [lessE_iff, hxe, e] at this
        exact List.lt_irrefl _ this)]
      omega
    · have e' : (a.code.toList == c.toList) = false := by rw [ByteArray.toList_eq, ByteArray.toList_eq]; simpa using e
      rw [e', if_neg e, ih h2]
      simp
theorem atE_mem {l : List Elem} {c : ByteArray} {P : Int → Prop} (h : ∀ x ∈ l, P x.amount) (h0 : P 0) : P (atE l c) := by
  induction l with
  | nil => exact h0
  | cons a l ih =>
    rw [atE]
    split
    · exact h a (by simp)
    · exact ih (fun x hx => h x (by simp [hx]))

/- What is taken. -/
def amtT (before : Bool) (base : Int) (year : List Elem) (d : DedT) (left : Int) : Int := if d.before = before then min (wantN d base (atE year d.code)) left else 0
def tk (before : Bool) (base : Int) (year : List Elem) : List DedT → Int → List Elem
  | [], _ => []
  | d :: r, left => (if 0 < amtT before base year d left then [⟨d.code, amtT before base year d left⟩] else []) ++ tk before base year r (left - amtT before base year d left)
def rst (before : Bool) (base : Int) (year : List Elem) : List DedT → Int → Int
  | [], left => left
  | d :: r, left => rst before base year r (left - amtT before base year d left)
def ordD (l : List DedT) : List DedT := (List.range 100).flatMap fun (r : Nat) => l.filter fun d => decide (d.rank = (r : Int))
def takeE (l : List DedT) (base avail : Int) (year : List Elem) : Int := if validD l = false then 1 else if recB year = false then 1 else if inB base 1000000000 = false then 2 else if inB avail 1000000000 = false then 2 else 0
def takeR (l : List DedT) (before : Bool) (base avail : Int) (year : List Elem) : List Elem := if takeE l base avail year = 0 then sumsP (tk before base year (ordD l) avail) else []

/- What is added. -/
def addB (x : Elem) : Bool := nameB x.code && inB x.amount 1000000000
def addO (a b : List Elem) : List Elem := (b.foldl put a).filter nz
def addE (a b : List Elem) : Int := if recB a = false then 1 else if b.all addB = false then 1 else if 128 < b.length then 3 else if 128 < (addO a b).length then 3 else if (addO a b).any (fun x => decide (1000000000000 < x.amount)) then 4 else 0
def addR (a b : List Elem) : List Elem := if addE a b = 0 then addO a b else []
def sumE : List Elem → Int
  | [] => 0
  | x :: r => x.amount + sumE r
theorem sumE_append (l m : List Elem) : sumE (l ++ m) = sumE l + sumE m := by
  induction l with
  | nil => simp [sumE]
  | cons a l ih => simp [sumE, ih]; omega

end Go.Proofs.Ytcpkdpflkjjlcaa
