/- Contract of slices.SortFunc at api.Element with wage.sums' closure: a permutation, sorted by code. Conditions: fewer than 2^62 elements. -/
import Derived.Test.YtlfefcfddpmccaaShelf
import Derived.Test.YtlfefcfddpmccaaRefSums
namespace Go.Proofs.Ytlfefcfddpmccaa
open Go.RowKit Go.Sort Go.Shelf

def cmpS (a b : ByteArray) : Int := if Op.bytesLess a.toList b.toList then -1 else if !(Op.bytesLess a.toList b.toList || a.toList == b.toList) then 1 else 0
def cmpE (x y : Elem) : Int := cmpS x.code y.code
instance : Inhabited Elem := ⟨⟨⟨#[]⟩, 0⟩⟩

set_option maxHeartbeats 400000 in
theorem isNaN_any (a : ByteArray) (w : World) : Calls Try.prog 54 #[.string a] w fun e w' => e = .returned (.bool false) ∧ w = w' := by
  go_enter Try.func54, Try.ntmps54
  go_wp2
  go_ret
  exact ⟨by simp, rfl⟩

set_option maxHeartbeats 400000 in
theorem compare_any (a b : ByteArray) (w : World) : Calls Try.prog 47 #[.string a, .string b] w fun e w' => e = .returned (.int .i64 (cmpS a b)) ∧ w = w' := by
  go_enter Try.func47, Try.ntmps47
  go_wp2_with (go_at_call 54; refine (isNaN_any _ _).mono ?_; rintro e w' ⟨rfl, rfl⟩)
  all_goals go_ret
  all_goals refine ⟨?_, rfl⟩
  all_goals (simp [cmpS, *]; try simp_all)

theorem less_eq : ∀ (x y : List UInt8), Op.bytesLess x y = decide (x < y)
  | [], [] => by simp [Op.bytesLess]
  | _ :: _, [] => by simp [Op.bytesLess]
  | [], _ :: _ => by simp [Op.bytesLess]
  | a :: x, b :: y => by
    rw [Op.bytesLess, less_eq x y]
    simp only [List.cons_lt_cons_iff]
    by_cases h1 : a < b <;> by_cases h2 : a = b <;> by_cases h3 : x < y <;> simp [h1, h2, h3]
theorem ltE (x y : Elem) : ltOf cmpE x y = lessE x y := by
  unfold ltOf cmpE cmpS lessE
  split
  · rename_i h; simp [h]
  · rename_i h
    have h' : Op.bytesLess x.code.toList y.code.toList = false := by simpa using h
    split <;> simp [h']
theorem swoE : SWO (ltOf cmpE) where
  irrefl x := by rw [ltE, lessE, less_eq]; simp
  trans x y z h1 h2 := by
    rw [ltE, lessE, less_eq] at *
    simp only [decide_eq_true_eq] at *
    exact List.lt_trans h1 h2
  ntrans x y z h1 h2 := by
    rw [ltE, lessE, less_eq] at *
    simp only [decide_eq_false_iff_not, List.not_lt] at *
    exact List.le_trans h2 h1

set_option maxHeartbeats 1000000 in
theorem closure_any (x y : Elem) (W : World) : Calls Try.prog 46 #[.agg #[.string x.code, .int .i64 x.amount], .agg #[.string y.code, .int .i64 y.amount]] W fun e w' => e = .returned (.int .i64 (cmpE x y)) ∧ ∃ q os', w' = grow (W.drewN q) os' := by
  go_enter Try.func46, Try.ntmps46
  go_wp2_with (go_at_call 47; refine (compare_any _ _ _).mono ?_; rintro e w' ⟨rfl, rfl⟩)
  go_ret
  exact ⟨rfl, 0, _, by rw [alloc_eq_grow, alloc_eq_grow, grow_grow]; rfl⟩

theorem only_sortWorld (w : World) (blk off n : Nat) (d : Array Elem) (os : Array Obj) : w.grownBy (sortWorldK encE 2 w blk off n d os) (some blk) := by
  refine ⟨rfl, rfl, rfl, size_sortWorldK_c encE 2 w blk off n d os, fun i hi hne => ?_⟩
  have hne' : blk ≠ i := fun e => hne (by rw [e])
  have hsz : (putRowK encE 2 (Sort.ahead w n) blk off d).heap.size = w.heap.size := by simp [putRowK, putRow, mapBlock, Sort.ahead]
  show ((putRowK encE 2 (Sort.ahead w n) blk off d).heap ++ os)[i]? = w.heap[i]?
  rw [Array.getElem?_append_left (by omega)]
  show (w.heap.modify blk _)[i]? = _
  rw [Array.getElem?_modify, if_neg hne']

set_option maxHeartbeats 1000000 in
theorem sortE_any (A : Option Addr) (cap base : Nat) (xs : List Elem) (w : World) (hown : Own encE 2 44 w base (.slice A xs.length cap) xs) (hl : xs.length < 4611686018427387904) :
    Calls Try.prog 45 #[.slice A xs.length cap, .func (.func 46) #[] #[]] w fun e w' => e = .returned (.tuple #[]) ∧
      ∃ ys : List Elem, ys.Perm xs ∧ ys.Pairwise (fun a b => lessE b a = false) ∧ SliceOf encE 2 w' w'.heap.size A ys ∧ Below base w w' := by
  rcases hown.2 with ⟨hv, h0⟩ | ⟨g, cap', cur, hv, hb, hg, hn, hm, hs, ht⟩
  · injection hv with h1 h2 h3
    obtain rfl : xs = [] := List.eq_nil_of_length_eq_zero h0
    have hcon := AnyF.slices_SortFunc_none { Try.sortE with } A cap (.func (.func 46) #[] #[]) w
    refine Calls.mono hcon fun e w' ⟨he, hw⟩ => ⟨he, [], List.Perm.refl _, List.Pairwise.nil, SliceOf.nil_, by rw [hw]; exact Below.refl _ _⟩
  · injection hv with h1 h2 h3
    subst h1 h3
    have hgl := (Array.getElem?_eq_some_iff.1 hg).1
    have eg : ∀ args w, (callFunc 46 args).run Try.prog w = .ok (.enter 46 args) w := enters_of Try.func46 (by kernel_rfl) rfl
    have hcmp : CmpLays Try.prog 46 #[] encE 2 cmpE g 0 xs.toArray.size w := fun _ _ _ _ x y => closure_any x y _
    have hH : HoldsK encE 2 w g 0 xs.toArray := by
      intro j hj
      rw [size_flatK] at hj
      simp only [List.size_toArray] at hj
      have hdiv : j / 2 < xs.length := by omega
      have hmod : j % 2 < 2 := Nat.mod_lt _ (by omega)
      refine ⟨?_, by simp [World.frozen?, hg]⟩
      rw [get_flatK _ _ _ _ (by simpa using hj), Nat.zero_add, cell_of_row w g j cur _ (0, 0) hg]
      have hx : xs.toArray[j / 2]! = xs[j / 2] := by simp [hdiv]
      rw [hx]
      have hu : (encE xs[j / 2])[j % 2]? = some ((encE xs[j / 2])[j % 2]!) := by
        have hlt : j % 2 < (encE xs[j / 2]).length := by rw [encE_len]; exact hmod
        rw [List.getElem?_eq_getElem hlt, getElem!_pos (encE xs[j / 2]) (j % 2) hlt]
      have h1 := flatMap_at encE_len xs (j / 2) (j % 2) _ _ (List.getElem?_eq_getElem hdiv) hu
      rw [show j / 2 * 2 + j % 2 = j by omega] at h1
      rw [← ht, List.getElem?_take, if_pos (by omega)] at h1
      simpa using h1
    have hcon := AnyQ.slices_SortFunc Try.sortE 2 Try.isAgg44 Try.sizeOf44 encE encE_len encE_one cmpE swoE 46 #[] g 0 cap xs.toArray w eg hcmp hH hgl (by simpa using hl)
    have hcon' : Calls Try.prog 45 #[.slice (some ⟨g, 0, none⟩) xs.length cap, .func (.func 46) #[] #[]] w _ := hcon
    refine hcon'.mono ?_
    rintro e w' ⟨he, d', n, os, hp, hsd, rfl⟩
    obtain ⟨hp1, hp2, hp3⟩ := hp
    refine ⟨he, d'.toList, ?_, ?_, ?_, only_below (only_sortWorld _ _ _ _ _ _) (by omega) (fun q e => by injection e; omega)⟩
    · have e1 : xs.toArray.size = xs.length := by simp
      rw [e1] at hp1 hp3
      have e2 : (d'.extract 0 xs.length) = d' := by rw [← hp1]; simp
      have e3 : (xs.toArray.extract 0 xs.length) = xs.toArray := by simp
      rw [e2, e3] at hp3
      exact hp3
    · rw [List.pairwise_iff_getElem]
      intro i j hi hj hij
      have h1 := hsd i j (Nat.zero_le _) hij (by rw [← hp1]; simpa using hj)
      rw [ltE, getElem!_pos d' i (by simpa using hi), getElem!_pos d' j (by simpa using hj)] at h1
      simpa using h1
    · intro _
      refine ⟨g, 0, rfl, lt_sortWorldK encE 2 w g 0 n d' os hgl, fun i x hi j u hu => ?_⟩
      have hH' := holdsK_sortWorldK_c encE 2 w g 0 xs.toArray d' n os hH hgl hp1
      have hil : i < d'.size := by simpa using (List.getElem?_eq_some_iff.1 hi).1
      have hjl : j < 2 := by have := (List.getElem?_eq_some_iff.1 hu).1; rwa [encE_len] at this
      have h1 := (hH' (i * 2 + j) (by rw [size_flatK]; omega)).1
      rw [get_flatK _ _ _ _ (by omega), show (i * 2 + j) / 2 = i by omega, show (i * 2 + j) % 2 = j by omega, getElem!_pos d' i hil] at h1
      have hx : d'[i] = x := by
        have := (List.getElem?_eq_some_iff.1 hi).2
        simpa using this
      rw [hx] at h1
      have hu2 : (encE x)[j]! = u := by
        have hlt := (List.getElem?_eq_some_iff.1 hu).1
        rw [getElem!_pos (encE x) j hlt]
        exact (List.getElem?_eq_some_iff.1 hu).2
      rw [hu2] at h1
      rw [Nat.zero_add]
      rw [Nat.zero_add] at h1
      exact h1

end Go.Proofs.Ytlfefcfddpmccaa
