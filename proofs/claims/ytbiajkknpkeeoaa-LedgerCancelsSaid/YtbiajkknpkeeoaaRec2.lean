/- Plain laws on putting a record into a sorted list, position by position. Conditions: as stated. -/
import Derived.Test.YtbiajkknpkeeoaaRec
namespace Go.Proofs.Ytbiajkknpkeeoaa

section
variable {α κ : Type} [DecidableEq κ] {R : Rec α κ}
theorem Rec.put_skip (e : α) : ∀ (xs : List α) (k : Nat), k ≤ xs.length → (∀ j, (h : j < xs.length) → j < k → R.lt (R.key xs[j]) (R.key e) = true) → R.put xs e = xs.take k ++ R.put (xs.drop k) e := by
  intro xs
  induction xs with
  | nil => intro k hk _; simp
  | cons x r ih =>
    intro k hk h
    cases k with
    | zero => simp
    | succ k =>
      have h0 := h 0 (by simp) (by omega)
      simp at h0
      rw [Rec.put, if_pos h0, List.take_succ_cons, List.drop_succ_cons, List.cons_append]
      rw [← ih k (by simp at hk; omega) (fun j hj hjk => by have := h (j + 1) (by simp; omega) (by omega); simpa using this)]
theorem Rec.put_eq {xs : List α} {e : α} {k : Nat} (hk : k < xs.length) (h : ∀ j, (h : j < xs.length) → j < k → R.lt (R.key xs[j]) (R.key e) = true) (h1 : R.lt (R.key xs[k]) (R.key e) = false) (h2 : R.key xs[k] = R.key e) :
    R.put xs e = xs.take k ++ [R.set e (R.amt e + R.amt xs[k])] ++ xs.drop (k + 1) := by
  rw [Rec.put_skip e xs k (by omega) h, List.drop_eq_getElem_cons hk, Rec.put, h1, if_neg (by simp), if_pos h2]
  simp
theorem Rec.put_ne {xs : List α} {e : α} {k : Nat} (hk : k < xs.length) (h : ∀ j, (h : j < xs.length) → j < k → R.lt (R.key xs[j]) (R.key e) = true) (h1 : R.lt (R.key xs[k]) (R.key e) = false) (h2 : ¬ R.key xs[k] = R.key e) :
    R.put xs e = xs.take k ++ [e] ++ xs.drop k := by
  rw [Rec.put_skip e xs k (by omega) h, List.drop_eq_getElem_cons hk, Rec.put, h1, if_neg (by simp), if_neg h2]
  simp
theorem Rec.put_end {xs : List α} {e : α} (h : ∀ j, (h : j < xs.length) → R.lt (R.key xs[j]) (R.key e) = true) : R.put xs e = xs.take xs.length ++ [e] ++ xs.drop xs.length := by
  rw [Rec.put_skip e xs xs.length (Nat.le_refl _) (fun j hj _ => h j hj)]
  simp [Rec.put]
end

end Go.Proofs.Ytbiajkknpkeeoaa
