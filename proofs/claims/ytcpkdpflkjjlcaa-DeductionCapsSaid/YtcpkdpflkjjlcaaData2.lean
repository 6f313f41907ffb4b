/- More words for memory: what stands when a new block has been laid and written to. Conditions: as stated. -/
import Derived.Test.YtcpkdpflkjjlcaaData
namespace Go.Proofs.Ytcpkdpflkjjlcaa
open Go.RowKit

section
variable {α : Type} {enc : α → List Value} {k : Nat} {w w' : World} {A : Option Addr} {xs : List α} {o : Obj} {n c off : Nat}
/-- Only the block that was laid last has been written to since. -/
theorem fresh_below (hg : (w.alloc o).grownBy w' (Value.slice (some ⟨w.heap.size, off, none⟩) n c).ownBlock) : Below w.heap.size w w' := by
  have h1 : (w.alloc o).grownBy w' (some w.heap.size) := hg
  exact (below_new w o).trans (only_below h1 (by simp) (fun g e => by injection e; omega))
theorem fresh_size (hg : (w.alloc o).grownBy w' (Value.slice (some ⟨w.heap.size, off, none⟩) n c).ownBlock) : w.heap.size < w'.heap.size := by
  have := hg.size
  rw [World.size_alloc] at this
  omega
theorem SliceOf.fresh (h : SliceOf enc k w w.heap.size A xs) (hg : (w.alloc o).grownBy w' (Value.slice (some ⟨w.heap.size, off, none⟩) n c).ownBlock) : SliceOf enc k w' w'.heap.size A xs := h.adv (fresh_below hg)
end
/-- An append to a row of the call's own turns nothing that lay ahead of its base. -/
theorem Own.below_of {α : Type} {enc : α → List Value} {k : Nat} {e : TypeId} {w w' : World} {base : Nat} {v : Value} {xs : List α} (h : Own enc k e w base v xs) (hg : w.grownBy w' v.ownBlock) (hb : base ≤ w.heap.size) : Below base w w' :=
  only_below hg hb (fun _ e => (h.block_lt e).1)

theorem Own.form2 {α : Type} {enc : α → List Value} {k : Nat} {e : TypeId} {w : World} {base : Nat} {v : Value} {xs : List α} (h : Own enc k e w base v xs) (hk : ∀ x, (enc x).length = k) :
    ∃ A c, v = .slice A xs.length c ∧ SliceOf enc k w w.heap.size A xs ∧ (∀ a, A = some a → base ≤ a.block) ∧ xs.length ≤ c ∧ c ≤ maxLen := by
  obtain ⟨A, c, hv, hs, hb, hl⟩ := h.form hk
  refine ⟨A, c, hv, hs, hb, ?_⟩
  rcases h.2 with ⟨rfl, h0⟩ | ⟨g, cap, cur, rfl, _, _, hn, hm, _⟩
  · injection hv with _ h1 h2
    subst h2
    exact ⟨by omega, by unfold maxLen; omega⟩
  · injection hv with _ _ h2
    subst h2
    exact ⟨hn, hm⟩
theorem below_size {B : Nat} {a b c : World} (h : Below B a b) (hb : Below b.heap.size b c) (hB : B ≤ b.heap.size) : Below B a c := h.trans (hb.mono hB)

end Go.Proofs.Ytcpkdpflkjjlcaa
