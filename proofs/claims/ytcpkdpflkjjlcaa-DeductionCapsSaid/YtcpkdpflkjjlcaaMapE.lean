/- Words for maps from strings to numbers. Conditions: as stated. -/
import Derived.Test.YtcpkdpflkjjlcaaPlainE
import Derived.Maps.RangeWalk
import Derived.Maps.OwnOps
import Derived.Maps.Ext
import Derived.Sort.KeysCollected
namespace Go.Proofs.Ytcpkdpflkjjlcaa
open Go.RowKit Go.Sort Go.Maps

theorem lawS : Keyed Try.prog 9 := string_keyed Try.underlying9
theorem zeroI (w : World) : (zeroValue 3).run Try.prog w = .ok (.int .i64 0) w := by kernel_rfl
abbrev i64L (n : Int) : DataW Unit := .lit (.int .i64 n)
/-- The map as read has the keys K and at each the number T. -/
structure MapD (D : DataW Unit) (K : List UInt8 → Bool) (T : List UInt8 → Int) : Prop where
  isMap : IsMap D
  has : ∀ c, Maps.has D (.string c) = K c
  at_ : ∀ c, D.atKey (.string c) (i64L 0) = i64L (T c)
theorem length_insert1 (x : Lit × DataW Unit) : ∀ l, (DataW.insert x l).length = l.length + 1
  | [] => rfl
  | y :: l => by
    rw [DataW.insert]
    split
    · rfl
    · simp [length_insert1 x l]
theorem length_insertAll (l : List (Lit × DataW Unit)) : (l.foldr DataW.insert []).length = l.length := by
  induction l with
  | nil => rfl
  | cons a l ih => rw [List.foldr_cons, length_insert1, ih]; rfl
theorem keyLit (s : ByteArray) : WideAt.IsKeyLit (key s) := trivial
theorem MapD.empty : MapD (.map []) (keyE []) (totE []) := ⟨isMap_empty, fun _ => rfl, fun _ => rfl⟩
theorem MapD.put_ {D : DataW Unit} {K K' : List UInt8 → Bool} {T T' : List UInt8 → Int} (h : MapD D K T) (s : ByteArray) (n : Int) (hK : ∀ c, K' c = (K c || decide (s.data.toList = c))) (hT : ∀ c, T' c = if s.data.toList = c then n else T c) : MapD (D.put (key s) (i64L n)) K' T' := by
  refine ⟨h.isMap.put _ _, fun c => ?_, fun c => ?_⟩
  · by_cases e : s.data.toList = c
    · subst e
      rw [show Lit.string s.data.toList = key s from rfl, has_put_same h.isMap (keyLit s), hK]; simp
    · rw [has_put_other (fun e' => e (by simpa [key] using e'.symm)), h.has, hK]; simp [e]
  · by_cases e : s.data.toList = c
    · subst e
      rw [show Lit.string s.data.toList = key s from rfl, atKey_put_same h.isMap (keyLit s), hT]; simp
    · rw [atKey_put_other (fun e' => e (by simpa [key] using e'.symm)), h.at_, hT]; simp [e]
theorem wf64 {n : Int} (h1 : -9223372036854775808 ≤ n) (h2 : n ≤ 9223372036854775807) : (Lit.int .i64 n).wf = true := by
  simp [Lit.wf, IntKind.min, IntKind.max, IntKind.signed, IntKind.bits]; omega
theorem keyE_take (xs : List Elem) (k : Nat) (h : k < xs.length) (c : List UInt8) : keyE (xs.take (k + 1)) c = (keyE (xs.take k) c || decide (xs[k].code.data.toList = c)) := by
  rw [List.take_succ_eq_append_getElem h, keyE_append]; simp [keyE]
theorem totE_take (xs : List Elem) (k : Nat) (h : k < xs.length) (c : List UInt8) : totE (xs.take (k + 1)) c = totE (xs.take k) c + if xs[k].code.data.toList = c then xs[k].amount else 0 := by
  rw [List.take_succ_eq_append_getElem h, totE_append]; simp [totE]

end Go.Proofs.Ytcpkdpflkjjlcaa
