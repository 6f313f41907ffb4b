/- How arguments are opened: slices of integers; the law for slices of structs, as lists. Conditions: as stated. -/
import Derived.Test.YtbiajkknpkeeoaaGen
import Derived.Deep.Slices
import Derived.Deep.Fields
import Derived.ChangeSame
import Derived.ProofKit
import Derived.OpenShut
import Derived.ShutString
import Derived.ChangeOld
namespace Go.Proofs.Ytbiajkknpkeeoaa
open Go.ChangeShapes Go.WideShapes Go.ChangeAt Go.RowKit Go.Deep
section
variable {H : Type} {enc : TypeId × Value → H} {P : Program} {w : World} {base : Nat} {spare : Nat → Bool} {held : Bool}
theorem open_slice_fields {t e : TypeId} {fs : Array Field} {fuel : Nat} {cs : List Value} {x : DataW H × List MemPlace} (ht : P.underlying t = some (.slice e)) (he : P.underlying e = some (.struct fs))
    (hone : oneCellFields P fs = true) (hC : P.cellsOf e = fs.size) (h : DataW.trod enc P w base spare held fuel t cs = some x) :
    (cs = [.slice none 0 0] ∧ x = (.nil, [])) ∨
    ∃ (a : Addr) (len cap m : Nat) (D : Nat → DataW H) (Pl : Nat → List MemPlace), cs = [.slice (some a) len cap] ∧ base ≤ a.block ∧ len ≤ cap ∧ cap ≤ maxLen ∧ m = (if spare a.block then cap else len) ∧
      x = (.slice ((List.range len).map D) ((List.range (m - len)).map fun j => D (len + j)), MemPlace.row a (m * fs.size) ++ (List.range m).flatMap Pl) ∧
      ∀ i, i < m → ∃ (ys : List (DataW H × List MemPlace)) (n : Nat), D i = .agg (ys.map (·.1)) ∧ Pl i = ys.flatMap (·.2) ∧ ys.length = fs.size ∧
        ∀ (j : Nat) (f : Field), fs[j]? = some f → ∃ (v : Value) (y : DataW H × List MemPlace), w.cell? (a.add (i * fs.size + j)) = some v ∧ ys[j]? = some y ∧ DataW.trod enc P w base spare held n f.type [v] = some y := by
  rcases open_slice ht h with h0 | ⟨a, len, cap, m, n, D, Pl, hcs, hb, hl, hm, hmm, hx, hi⟩
  · exact .inl h0
  · refine .inr ⟨a, len, cap, m, D, Pl, hcs, hb, hl, hm, hmm, by rw [hC] at hx; exact hx, fun i him => ?_⟩
    obtain ⟨cs', hc, ht'⟩ := hi i him
    rw [hC] at hc
    obtain ⟨ys, n', hn', hy, hlen, hyl, hf⟩ := DataW.trod_struct he ht'
    obtain ⟨_, hcl, hat⟩ := World.cells?_some hc
    simp only [Prod.mk.injEq] at hy
    refine ⟨ys, n', hy.1, hy.2, hyl, fun j f hj => ?_⟩
    obtain ⟨ho, hk⟩ := hone_of hone j f hj
    have hjl : j < fs.size := (Array.getElem?_eq_some_iff.1 hj).1
    have hcell := hat j hjl
    have hv : cs'[j]? = some (cs'[j]'(by omega)) := List.getElem?_eq_getElem (by omega)
    have h1 := hf j f hj
    rw [ho, hk] at h1
    have hone' : (cs'.drop j).take 1 = [cs'[j]'(by omega)] := by
      rw [List.drop_eq_getElem_cons (by omega)]
      rfl
    rw [hone'] at h1
    have hys : ys[j]? = some (ys[j]'(by omega)) := List.getElem?_eq_getElem (by omega)
    refine ⟨_, _, ?_, hys, h1.trans hys⟩
    rw [← Go.Deep.add_add, hcell, hv]
end

/-- From elements one by one to a list. -/
theorem list_of {α : Type} {encA : α → List Value} {k : Nat} {w : World} (hk : ∀ x, (encA x).length = k) (hk0 : 0 < k) (Q : α → Prop) (a : Addr) (len : Nat)
    (h : ∀ i, i < len → ∃ x, Q x ∧ ∀ j v, (encA x)[j]? = some v → w.cell? (a.add (i * k + j)) = some v) :
    ∃ xs : List α, xs.length = len ∧ (∀ x ∈ xs, Q x) ∧ SliceOf encA k w w.heap.size (some a) xs := by
  have h' : ∃ xs : List α, xs.length = len ∧ (∀ x ∈ xs, Q x) ∧ ∀ i x, xs[i]? = some x → ∀ j v, (encA x)[j]? = some v → w.cell? (a.add (i * k + j)) = some v := by
    induction len with
    | zero => exact ⟨[], rfl, by simp, by simp⟩
    | succ n ih =>
      obtain ⟨xs, h1, h2, h3⟩ := ih (fun i hi => h i (by omega))
      obtain ⟨x, hx1, hx2⟩ := h n (by omega)
      refine ⟨xs ++ [x], by simp [h1], fun y hy => ?_, fun i y hi j v hj => ?_⟩
      · rcases List.mem_append.1 hy with h4 | h4
        · exact h2 y h4
        · simp at h4; subst h4; exact hx1
      · rcases Nat.lt_or_ge i xs.length with h4 | h4
        · rw [List.getElem?_append_left h4] at hi; exact h3 i y hi j v hj
        · rw [List.getElem?_append_right h4] at hi
          have h5 : i - xs.length = 0 := by
            have := (List.getElem?_eq_some_iff.1 hi).1
            simp at this; exact this
          rw [h5] at hi
          simp at hi
          subst hi
          obtain rfl : i = n := by omega
          exact hx2 j v hj
  obtain ⟨xs, h1, h2, h3⟩ := h'
  refine ⟨xs, h1, h2, fun hne => ?_⟩
  obtain ⟨b, off, spot⟩ := a
  have hpos : 0 < xs.length := List.length_pos_iff.2 hne
  have hx0 := List.getElem?_eq_getElem hpos
  have hv0 : (encA xs[0])[0]? = some ((encA xs[0])[0]'(by rw [hk]; exact hk0)) := List.getElem?_eq_getElem _
  have hc0 := h3 0 _ hx0 0 _ hv0
  simp only [Nat.zero_mul, Nat.zero_add, Addr.add, if_true] at hc0
  have hspot : spot = none := by simpa using World.cell?_spot hc0
  subst hspot
  have hb : b < w.heap.size := World.block_lt_of_cell? w ⟨b, off, none⟩ hc0
  refine ⟨b, off, rfl, hb, fun i x hi j v hj => ?_⟩
  have := h3 i x hi j v hj
  have hadd : (⟨b, off, none⟩ : Addr).add (i * k + j) = ⟨b, off + i * k + j, none⟩ := by
    unfold Addr.add
    split
    · rename_i h0
      have h1 : i * k = 0 := by omega
      have h2 : j = 0 := by omega
      subst h2; simp
    · simp [Nat.add_assoc]
  rw [hadd] at this
  exact this

theorem wf_I64 {n : Int} (h : (Lit.int .i64 n).wf = true) : I64 n := by
  simp [Lit.wf, IntKind.min, IntKind.max, IntKind.signed, IntKind.bits] at h
  exact ⟨by omega, by omega⟩

theorem openI {H : Type} {enc : TypeId × Value → H} {W : World} {a : Option Addr} {len cap : Nat} {d : DataW H} {p : List MemPlace} (h : DataW.Trod enc Try.prog W 0 (fun _ => true) true 22 (.slice a len cap) d p) :
    ∃ xs : List Int, xs.length = len ∧ SliceOf encI 1 W W.heap.size a xs ∧ (∀ x ∈ xs, I64 x) ∧ len ≤ cap ∧ cap ≤ maxLen := by
  obtain ⟨fuel, hf⟩ := h
  rcases open_ints Try.underlying22 Try.underlying3 (by kernel_rfl) hf with ⟨hcs, _⟩ | ⟨x, l, c, zs, hcs, _, hl, hm, hz, _, hcell, hwz⟩
  · simp [Value.cells] at hcs
    obtain ⟨rfl, rfl, rfl⟩ := hcs
    exact ⟨[], rfl, SliceOf.nil_, by simp, by omega, by unfold maxLen; omega⟩
  · simp [Value.cells] at hcs
    obtain ⟨rfl, rfl, rfl⟩ := hcs
    have hz' : zs.length = cap := by simpa using hz
    have hh : ∀ i, i < len → ∃ y : Int, I64 y ∧ ∀ j v, (encI y)[j]? = some v → W.cell? (x.add (i * 1 + j)) = some v := by
      intro i hi'
      refine ⟨zs.getD i 0, ?_, fun j v hj => ?_⟩
      · apply wf_I64
        apply hwz
        rw [List.getD_eq_getElem?_getD, List.getElem?_eq_getElem (by omega)]
        exact List.getElem_mem _
      · match j, hj with
        | 0, hj =>
          simp [encI] at hj
          subst hj
          have := hcell i (by omega)
          simpa using this
        | (n + 1), hj => simp [encI] at hj
    obtain ⟨xs, h1, h2, h3⟩ := list_of (k := 1) (encA := encI) (fun _ => rfl) Nat.one_pos _ x len hh
    exact ⟨xs, h1, h3, h2, hl, hm⟩

end Go.Proofs.Ytbiajkknpkeeoaa
