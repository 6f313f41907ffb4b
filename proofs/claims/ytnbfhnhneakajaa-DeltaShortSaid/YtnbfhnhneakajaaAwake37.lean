/- Contract of payrolllaw37.awake: it returns true. Conditions: none. -/
import Derived.Test.YtnbfhnhneakajaaPost
import Derived.Test.YtnbfhnhneakajaaGenL
namespace Go.Proofs.Ytnbfhnhneakajaa
open Go.RowKit

def awL : List LineT := [⟨9, ⟨#[]⟩, 5⟩]
theorem aw1 : recV 700 1000 800 500000 = .tuple #[.int .i64 800, .int .i64 (-100), .int .i64 0] := by
  have h1 : recOk 700 1000 800 500000 = true := by decide +kernel
  have h2 : recPay 700 1000 800 500000 = 800 := by decide +kernel
  rw [recV, h1, if_pos rfl, h2]; rfl
theorem aw2 : pErr 1 1 0 [] awL = 0 := by decide +kernel
theorem aw3 : pR 1 1 0 [] awL = [⟨1, 1, 0, ⟨9, ⟨#[]⟩, 5⟩⟩] := by decide +kernel
theorem recV_form (b n k s : Int) : ∃ p r e : Int, recV b n k s = .tuple #[.int .i64 p, .int .i64 r, .int .i64 e] := by
  unfold recV
  split
  · exact ⟨_, _, _, rfl⟩
  · exact ⟨_, _, _, rfl⟩

set_option maxRecDepth 100000 in
set_option maxHeartbeats 2000000 in
theorem awake_any (w : World) : Calls Try.prog 12 #[] w fun e w' => e = .returned (.bool true) ∧ Below w.heap.size w w' := by
  go_enter Try.func12, Try.ntmps12
  go_wp2_with fail
  refine (recover_any _ _ _ _ _).mono ?_
  rintro e w1 ⟨rfl, q1, rfl⟩
  rw [aw1]
  go_wp2_with fail
  have hL := (SliceOf.new encL_len (w.drewN q1) awL _ 56 rfl).more (B' := ((w.drewN q1).alloc (.cells (awL.flatMap encL).toArray 56)).heap.size) (by simp)
  have hz : ∀ x ∈ awL, x.code.size ≤ maxLen := by decide
  have hcon := postings_any 1 1 0 none _ 0 1 [] awL ((w.drewN q1).alloc (.cells (awL.flatMap encL).toArray 56)) SliceOf.nil_ (by simp) (by simp) hL hz (by simp [awL])
  have HC := Lib.hid hcon
  clear hcon hL hz
  rw [show (awL.flatMap encL).toArray = #[.int .i64 9, .string ⟨#[]⟩, .int .i64 5] from rfl] at HC
  refine Calls.mono HC.out ?_
  rintro e w2 ⟨v2, rfl, hown2, hb2⟩
  rw [aw2]
  rw [aw3] at hown2
  obtain ⟨A2, c2, rfl, hS2, hB2, hlc2, hcm2⟩ := hown2.form2 encP_len
  obtain ⟨b, off, rfl, hb, hc⟩ := hS2 (by simp)
  have d5 := hc 0 _ rfl 5 _ rfl
  simp only [Nat.zero_mul, Nat.add_zero] at d5
  have hbel2 : Below w.heap.size w w2 := bel_adv (bel_alloc (below_drewN (Below.refl _ _) q1) _) hb2
  clear hown2 hS2 hB2 hc hb2 HC
  go_wp2
  go_ret
  exact ⟨rfl, hbel2⟩

end Go.Proofs.Ytnbfhnhneakajaa
