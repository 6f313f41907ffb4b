/- Plain laws for Add. Conditions: as stated. -/
import Derived.Test.YtcpkdpflkjjlcaaTakeP
namespace Go.Proofs.Ytcpkdpflkjjlcaa
open Go.RowKit

theorem addAll {a : List Elem} (b : List Elem) (h : SortedE a) : SortedE (b.foldl put a) ∧ (∀ c, totE (b.foldl put a) c = totE (a ++ b) c) ∧ ∀ c, keyE (b.foldl put a) c = keyE (a ++ b) c := by
  obtain ⟨h1, h2, h3⟩ := foldl_facts b a h
  exact ⟨h1, fun c => by rw [h2, totE_append], fun c => by rw [h3, keyE_append]⟩
theorem mem_addO {a b : List Elem} (h : SortedE a) (x : Elem) : x ∈ addO a b ↔ (keyE (a ++ b) x.code.data.toList = true ∧ x.amount = totE (a ++ b) x.code.data.toList ∧ x.amount ≠ 0) := by
  obtain ⟨h1, h2, h3⟩ := addAll b h
  rw [addO, List.mem_filter, mem_sorted h1, h2, h3]
  simp [nz, and_assoc]
theorem addO_sorted {a : List Elem} (b : List Elem) (h : SortedE a) : SortedE (addO a b) := (addAll b h).1.filter _
theorem perm_of_codes : ∀ {l m : List Elem}, l.Pairwise (fun a b => a.code ≠ b.code) → m.Pairwise (fun a b => a.code ≠ b.code) → (∀ x, x ∈ l ↔ x ∈ m) → l.Perm m
  | [], [], _, _, _ => List.Perm.nil
  | [], b :: s, _, _, h => by have := (h b).2 (by simp); simp at this
  | a :: r, m, h1, h2, h => by
    obtain ⟨a1, a2⟩ := List.pairwise_cons.1 h1
    have hm : a ∈ m := (h a).1 (by simp)
    obtain ⟨s, t, rfl⟩ := List.append_of_mem hm
    have hp : (s ++ a :: t).Perm (a :: (s ++ t)) := List.perm_middle
    have h2' := h2.perm hp (fun h e => h e.symm)
    obtain ⟨b1, b2⟩ := List.pairwise_cons.1 h2'
    refine (List.Perm.cons a (perm_of_codes a2 b2 (fun x => ?_))).trans hp.symm
    constructor
    · intro hx
      have := (h x).1 (by simp [hx])
      have h3 := hp.mem_iff.1 this
      rcases List.mem_cons.1 h3 with e | h3
      · subst e; exact absurd rfl (a1 x hx)
      · exact h3
    · intro hx
      have := (h x).2 (hp.mem_iff.2 (by simp [hx]))
      rcases List.mem_cons.1 this with e | h3
      · subst e; exact absurd rfl (b1 x hx)
      · exact h3
theorem sorted_codes {l : List Elem} (h : SortedE l) : l.Pairwise (fun a b => a.code ≠ b.code) := h.imp (by
  intro a b hab e
  rw [lessE_iff, e] at hab
  exact List.lt_irrefl _ hab)
def big (x : Elem) : Bool := decide (1000000000000 < x.amount)
def anyBig (l : List Elem) : Bool := l.any big
theorem anyBig_snoc (l : List Elem) (x : Elem) : anyBig (l ++ [x]) = (anyBig l || big x) := by simp [anyBig]
theorem addE_def (a b : List Elem) : addE a b = if recB a = false then 1 else if b.all addB = false then 1 else if 128 < b.length then 3 else if 128 < (addO a b).length then 3 else if anyBig (addO a b) then 4 else 0 := rfl
theorem addE_1 {a b : List Elem} (h : recB a = false ∨ b.all addB = false) : addE a b = 1 := by
  rw [addE_def]
  rcases h with h | h
  · rw [if_pos h]
  · rw [if_pos h]; split <;> rfl
theorem addE_3 {a b : List Elem} (h1 : recB a = true) (h2 : b.all addB = true) (h : 128 < b.length ∨ 128 < (addO a b).length) : addE a b = 3 := by
  rw [addE_def, if_neg (by simp [h1]), if_neg (by simp [h2])]
  rcases h with h | h
  · rw [if_pos h]
  · rw [if_pos h]; split <;> rfl
theorem addE_4 {a b : List Elem} (h1 : recB a = true) (h2 : b.all addB = true) (h3 : ¬ 128 < b.length) (h4 : ¬ 128 < (addO a b).length) : addE a b = if anyBig (addO a b) then 4 else 0 := by
  rw [addE_def, if_neg (by simp [h1]), if_neg (by simp [h2]), if_neg h3, if_neg h4]
theorem addR_ok {a b : List Elem} (h : addE a b = 0) : addR a b = addO a b := by rw [addR, if_pos h]
theorem addR_no {a b : List Elem} (h : addE a b ≠ 0) : addR a b = [] := by rw [addR, if_neg h]
theorem addB_iff (x : Elem) : addB x = true ↔ nameB x.code = true ∧ 0 ≤ x.amount ∧ x.amount ≤ 1000000000 := by simp [addB, inB]
theorem totE_bd2 (l : List Elem) (c : List UInt8) (B : Int) (hB : 0 ≤ B) (h : ∀ x ∈ l, 0 ≤ x.amount ∧ x.amount ≤ B) : 0 ≤ totE l c ∧ totE l c ≤ l.length * B := by
  induction l with
  | nil => simp [totE]
  | cons a l ih =>
    have h1 := ih (fun x hx => h x (by simp [hx]))
    have h2 := h a (by simp)
    simp only [totE, List.length_cons]
    have h3 : ((l.length + 1 : Nat) : Int) * B = l.length * B + B := by rw [Int.natCast_add, Int.add_mul]; simp
    rw [h3]
    split <;> omega

end Go.Proofs.Ytcpkdpflkjjlcaa
