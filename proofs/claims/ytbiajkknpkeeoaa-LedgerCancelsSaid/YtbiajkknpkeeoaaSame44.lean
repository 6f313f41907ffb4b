/- The contract of payrollref44.Same at two slices that hold one list, as a call that turns nothing. Conditions: the length fits an int. -/
import Derived.Test.YtbiajkknpkeeoaaBk
namespace Go.Proofs.Ytbiajkknpkeeoaa
open Go.RowKit

theorem same44_bw (A B : Option Addr) (c d : Nat) (xs : List BookT) (w : World) (hx : SliceOf encB 3 w w.heap.size A xs) (hy : SliceOf encB 3 w w.heap.size B xs) (hl : xs.length ≤ 9223372036854775807) :
    Calls Try.prog 16 #[.slice A xs.length c, .slice B xs.length d] w fun e w' => e = .returned (.bool true) ∧ Below w.heap.size w w' :=
  (sameB_self A B c d xs w hx hy hl).mono fun _ _ ⟨h1, q, h2⟩ => ⟨h1, by rw [h2]; exact below_drewN (Below.refl _ _) q⟩

end Go.Proofs.Ytbiajkknpkeeoaa
