/- Contract of paygen's Pick at a literal. Conditions: at most a million numbers have been drawn. -/
import Derived.Test.YtbiajkknpkeeoaaGen
namespace Go.Proofs.Ytbiajkknpkeeoaa
open Go.RowKit

theorem pick_new (b M : Nat) (W : World) (l : List Int) (cs : Array Value) (n c : Nat) (hcs : cs = (l.flatMap encI).toArray) (hn : n = l.length) (hM : M ≤ 1000000) (hd : DeckIn W b M) (hl : l ≠ []) (hn2 : l.length ≤ 1000) :
    Calls Try.prog 28 #[.pointer (some ⟨b, 0, none⟩), .slice (some ⟨W.heap.size, 0, none⟩) n c] (W.alloc (.cells cs 3)) fun e w' => ∃ r : Int, e = .returned (.int .i64 r) ∧ r ∈ l ∧ DeckIn w' b (M + 1) ∧ W.grownBy w' (some b) := by
  subst hn
  have hlt := hd.lt
  refine (pick_any b M _ (some ⟨W.heap.size, 0, none⟩) l c hM (hd.alloc _) hl hn2 ?_ ?_).mono ?_
  · exact (SliceOf.new encI_len W l cs 3 hcs).more (by simp)
  · intro a ha; injection ha with ha; subst ha; show W.heap.size ≠ b; omega
  · rintro e w2 ⟨r, rfl, hr, hd2, hg2⟩
    exact ⟨r, rfl, hr, hd2, only_trans (only_alloc (only_refl _ _) _) hg2⟩

end Go.Proofs.Ytbiajkknpkeeoaa
