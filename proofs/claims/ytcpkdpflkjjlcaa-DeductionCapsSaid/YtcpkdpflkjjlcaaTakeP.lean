/- More plain laws for Take: prefixes of the order; what a step adds. Conditions: as stated. -/
import Derived.Test.YtcpkdpflkjjlcaaDedP
namespace Go.Proofs.Ytcpkdpflkjjlcaa
open Go.RowKit

section
variable {before : Bool} {base : Int} {year : List Elem}
theorem tk_snoc (P : List DedT) (d : DedT) (a : Int) : tk before base year (P ++ [d]) a = tk before base year P a ++ (if 0 < amtT before base year d (rst before base year P a) then [⟨d.code, amtT before base year d (rst before base year P a)⟩] else []) := by
  rw [tk_append]; simp [tk]
theorem rst_snoc (P : List DedT) (d : DedT) (a : Int) : rst before base year (P ++ [d]) a = rst before base year P a - amtT before base year d (rst before base year P a) := by
  rw [rst_append]; simp [rst]
/-- A step that takes something. -/
theorem step_yes {P : List DedT} {d : DedT} {a n l0 : Int} (hl : rst before base year P a = l0) (hn : amtT before base year d l0 = n) (h : 0 < n) :
    tk before base year (P ++ [d]) a = tk before base year P a ++ [⟨d.code, n⟩] ∧ rst before base year (P ++ [d]) a = l0 - n := by
  rw [tk_snoc, rst_snoc, hl, hn, if_pos h]; exact ⟨rfl, rfl⟩
/-- A step that takes nothing. -/
theorem step_no {P : List DedT} {d : DedT} {a l0 : Int} (hl : rst before base year P a = l0) (hn : amtT before base year d l0 = 0) :
    tk before base year (P ++ [d]) a = tk before base year P a ∧ rst before base year (P ++ [d]) a = l0 := by
  rw [tk_snoc, rst_snoc, hl, hn]; simp
theorem amtT_other {d : DedT} {l0 : Int} (h : d.before ≠ before) : amtT before base year d l0 = 0 := by rw [amtT, if_neg h]
theorem amtT_want {d : DedT} {l0 : Int} (h : d.before = before) (h2 : wantN d base (atE year d.code) ≤ l0) : amtT before base year d l0 = wantN d base (atE year d.code) := by
  rw [amtT, if_pos h]; omega
theorem amtT_left {d : DedT} {l0 : Int} (h : d.before = before) (h2 : l0 ≤ wantN d base (atE year d.code)) : amtT before base year d l0 = l0 := by
  rw [amtT, if_pos h]; omega
end

def ranks (l : List DedT) (r : Nat) : List DedT := (List.range r).flatMap fun (r : Nat) => l.filter fun d => decide (d.rank = (r : Int))
def pre (l : List DedT) (r i : Nat) : List DedT := ranks l r ++ (l.take i).filter fun d => decide (d.rank = (r : Int))
theorem ranks_100 (l : List DedT) : ranks l 100 = ordD l := rfl
theorem ranks_zero (l : List DedT) : ranks l 0 = [] := rfl
theorem pre_zero (l : List DedT) (r : Nat) : pre l r 0 = ranks l r := by simp [pre]
theorem pre_end (l : List DedT) (r : Nat) : pre l r l.length = ranks l (r + 1) := by
  simp [pre, ranks, List.range_succ]
theorem pre_yes (l : List DedT) (r i : Nat) (h : i < l.length) (e : l[i].rank = (r : Int)) : pre l r (i + 1) = pre l r i ++ [l[i]] := by
  rw [pre, pre, List.take_succ_eq_append_getElem h, List.filter_append]
  simp [List.filter_cons, e]
theorem pre_no (l : List DedT) (r i : Nat) (h : i < l.length) (e : l[i].rank ≠ (r : Int)) : pre l r (i + 1) = pre l r i := by
  rw [pre, pre, List.take_succ_eq_append_getElem h, List.filter_append]
  simp [List.filter_cons, e]
theorem ranks_len (l : List DedT) (h : l.length ≤ 16) (r : Nat) : (ranks l r).length ≤ 16 * r := by
  induction r with
  | zero => simp [ranks]
  | succ r ih =>
    have : ranks l (r + 1) = ranks l r ++ l.filter fun d => decide (d.rank = (r : Int)) := by simp [ranks, List.range_succ]
    rw [this, List.length_append]
    have := List.length_filter_le (fun d : DedT => decide (d.rank = (r : Int))) l
    omega
theorem pre_len (l : List DedT) (h : l.length ≤ 16) (r i : Nat) : (pre l r i).length ≤ 16 * r + 16 := by
  have h1 := ranks_len l h r
  have h2 := List.length_filter_le (fun d : DedT => decide (d.rank = (r : Int))) (l.take i)
  have h3 : (l.take i).length ≤ 16 := by simp; omega
  rw [pre, List.length_append]
  omega
theorem mem_pre {l : List DedT} {r i : Nat} {x : DedT} (h : x ∈ pre l r i) : x ∈ l := by
  simp only [pre, ranks, List.mem_append, List.mem_flatMap, List.mem_filter] at h
  rcases h with ⟨_, _, h, _⟩ | ⟨h, _⟩
  · exact h
  · exact List.mem_of_mem_take h
theorem totE_le {l : List Elem} (h : ∀ x ∈ l, 0 ≤ x.amount) (c : List UInt8) : 0 ≤ totE l c ∧ totE l c ≤ sumE l := by
  induction l with
  | nil => simp [totE, sumE]
  | cons a l ih =>
    have h1 := ih (fun x hx => h x (by simp [hx]))
    have h2 := h a (by simp)
    simp only [totE, sumE]
    split <;> omega
theorem sumsP_le {l : List Elem} (h : ∀ x ∈ l, 0 ≤ x.amount) {x : Elem} (hx : x ∈ sumsP l) : 0 ≤ x.amount ∧ x.amount ≤ sumE l := by
  rw [mem_sorted (sumsP_sorted l), sumsP_tot] at hx
  rw [hx.2]
  exact totE_le h _
/-- What has been taken so far, put together: few, none beyond what was available. -/
theorem taken_bd {P : List DedT} (hP : ∀ x ∈ P, DedOk x) (before : Bool) {base : Int} (year : List Elem) (h1 : 0 ≤ base) (h2 : base ≤ 1000000000) {a : Int} (ha : 0 ≤ a) (x : Elem) (hx : x ∈ sumsP (tk before base year P a)) : 0 ≤ x.amount ∧ x.amount ≤ a := by
  have h3 := sumsP_le (fun y hy => by have := (tk_mem hP h1 h2 a ha y hy).2.1; omega) hx
  rw [sumE_tk P hP h1 h2 a ha] at h3
  have := rst_bd (before := before) (year := year) hP h1 h2 a ha
  omega
theorem taken_len (P : List DedT) (before : Bool) (base : Int) (year : List Elem) (a : Int) : (sumsP (tk before base year P a)).length ≤ P.length := Nat.le_trans (sumsP_length _) (tk_length _ _)
theorem takeE_1 {l : List DedT} {base avail : Int} {year : List Elem} (h : validD l = false ∨ recB year = false) : takeE l base avail year = 1 := by
  unfold takeE
  rcases h with h | h
  · rw [if_pos h]
  · rw [if_pos h]; split <;> rfl
theorem takeE_2 {l : List DedT} {base avail : Int} {year : List Elem} (h1 : validD l = true) (h2 : recB year = true) (h : inB base 1000000000 = false ∨ inB avail 1000000000 = false) : takeE l base avail year = 2 := by
  unfold takeE
  rw [if_neg (by simp [h1]), if_neg (by simp [h2])]
  rcases h with h | h
  · rw [if_pos h]
  · rw [if_pos h]; split <;> rfl
theorem takeE_0 {l : List DedT} {base avail : Int} {year : List Elem} (h1 : validD l = true) (h2 : recB year = true) (h3 : inB base 1000000000 = true) (h4 : inB avail 1000000000 = true) : takeE l base avail year = 0 := by
  unfold takeE
  rw [if_neg (by simp [h1]), if_neg (by simp [h2]), if_neg (by simp [h3]), if_neg (by simp [h4])]
theorem takeR_ok {l : List DedT} {before : Bool} {base avail : Int} {year : List Elem} (h : takeE l base avail year = 0) : takeR l before base avail year = sumsP (tk before base year (ordD l) avail) := by rw [takeR, if_pos h]
theorem takeR_no {l : List DedT} {before : Bool} {base avail : Int} {year : List Elem} (h : takeE l base avail year ≠ 0) : takeR l before base avail year = [] := by rw [takeR, if_neg h]
theorem year_at {year : List Elem} (h : recB year = true) (c : ByteArray) : 0 ≤ atE year c ∧ atE year c ≤ 1000000000000 :=
  atE_mem (P := fun n => 0 ≤ n ∧ n ≤ 1000000000000) (fun x hx => ((recB_iff.1 h).2.1 x hx).2) ⟨by omega, by omega⟩

end Go.Proofs.Ytcpkdpflkjjlcaa
