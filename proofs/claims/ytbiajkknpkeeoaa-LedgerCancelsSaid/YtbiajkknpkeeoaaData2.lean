/- More words for memory: what stands when a new block has been laid and written to. Conditions: as stated. -/
import Derived.Test.YtbiajkknpkeeoaaData
namespace Go.Proofs.Ytbiajkknpkeeoaa
open Go.RowKit

section
variable {α : Type} {enc : α → List Value} {k : Nat} {w w' : World} {A : Option Addr} {xs : List α} {o : Obj} {n c off : Nat}
/-- Only the block that was laid last has been written to since. -/
theorem fresh_below (hg : (w.alloc o).grownBy w' (Value.slice (some ⟨w.heap.size, off, none⟩) n c).ownBlock) : Below w.heap.size w w' := by
  have h1 : (w.alloc o).grownBy w' (some w.heap.size) := hg
  exact (below_new w o).trans (only_below h1 (by simp) (fun g e => by injection e; omega))
theorem fresh_size (hg : (w.alloc o).grownBy w' (Value.slice (some ⟨w.heap.size, off, none⟩) n c).ownBlock) : w.heap.size < w'.heap.size := by
  have := hg.size
  rw [World.size_alloc] at this
  omega
theorem SliceOf.fresh (h : SliceOf enc k w w.heap.size A xs) (hg : (w.alloc o).grownBy w' (Value.slice (some ⟨w.heap.size, off, none⟩) n c).ownBlock) : SliceOf enc k w' w'.heap.size A xs := h.adv (fresh_below hg)
end
/-- An append to a row of the call's own turns nothing that lay ahead of its base. -/
theorem Own.below_of {α : Type} {enc : α → List Value} {k : Nat} {e : TypeId} {w w' : World} {base : Nat} {v : Value} {xs : List α} (h : Own enc k e w base v xs) (hg : w.grownBy w' v.ownBlock) (hb : base ≤ w.heap.size) : Below base w w' :=
  only_below hg hb (fun _ e => (h.block_lt e).1)

theorem Own.form2 {α : Type} {enc : α → List Value} {k : Nat} {e : TypeId} {w : World} {base : Nat} {v : Value} {xs : List α} (h : Own enc k e w base v xs) (hk : ∀ x, (enc x).length = k) :
    ∃ A c, v = .slice A xs.length c ∧ SliceOf enc k w w.heap.size A xs ∧ (∀ a, A = some a → base ≤ a.block) ∧ xs.length ≤ c ∧ c ≤ maxLen := by
  obtain ⟨A, c, hv, hs, hb, hl⟩ := h.form hk
  refine ⟨A, c, hv, hs, hb, ?_⟩
  rcases h.2 with ⟨rfl, h0⟩ | ⟨g, cap, cur, rfl, _, _, hn, hm, _⟩
  · injection hv with _ h1 h2
    subst h2
    exact ⟨by omega, by unfold maxLen; omega⟩
  · injection hv with _ _ h2
    subst h2
    exact ⟨hn, hm⟩
theorem below_size {B : Nat} {a b c : World} (h : Below B a b) (hb : Below b.heap.size b c) (hB : B ≤ b.heap.size) : Below B a c := h.trans (hb.mono hB)

theorem sets6 {cs : Array Value} (hs : cs.size = 6) (a0 a1 a2 a3 a4 a5 : Value) : ((((((cs.setIfInBounds 0 a0).setIfInBounds 1 a1).setIfInBounds 2 a2).setIfInBounds 3 a3).setIfInBounds 4 a4).setIfInBounds 5 a5) = #[a0, a1, a2, a3, a4, a5] := by
  obtain ⟨l⟩ := cs
  match l, hs with
  | [_, _, _, _, _, _], _ => rfl
theorem Blk.put6 {w : World} {g : Nat} {t : TypeId} {cs : Array Value} (h : Blk w g t cs) (hs : cs.size = 6) (a0 a1 a2 a3 a4 a5 : Value) :
    Blk ((((((w.setCell ⟨g, 0, none⟩ a0).setCell ⟨g, 1, none⟩ a1).setCell ⟨g, 2, none⟩ a2).setCell ⟨g, 3, none⟩ a3).setCell ⟨g, 4, none⟩ a4).setCell ⟨g, 5, none⟩ a5) g t #[a0, a1, a2, a3, a4, a5] := by
  rw [← sets6 hs a0 a1 a2 a3 a4 a5]
  exact (((((h.set_ 0 a0).set_ 1 a1).set_ 2 a2).set_ 3 a3).set_ 4 a4).set_ 5 a5
theorem below_put {w W : World} {g : Nat} (h : Below w.heap.size w W) (hg : w.heap.size ≤ g) (i : Nat) (a : Value) : Below w.heap.size w (W.setCell ⟨g, i, none⟩ a) := h.setCell (p := ⟨g, i, none⟩) hg a

end Go.Proofs.Ytbiajkknpkeeoaa
