/- Contracts of ledger.compare and of slices.SortFunc at api.Booked with it: a permutation, sorted by run and account. Conditions: fewer than 2^62 entries. -/
import Derived.Test.YtbiajkknpkeeoaaShelfB
import Derived.Test.YtbiajkknpkeeoaaCmpI
import Derived.Test.YtbiajkknpkeeoaaBk
import Derived.StillTailTactics
namespace Go.Proofs.Ytbiajkknpkeeoaa
open Go.RowKit Go.Sort Go.Shelf

def cmpB (x y : BookT) : Int := orI (cmpI x.run y.run) (cmpI x.account y.account)
instance : Inhabited BookT := ⟨⟨0, 0, 0⟩⟩
def lessB (x y : BookT) : Bool := RB.lt (RB.key x) (RB.key y)
set_option maxRecDepth 100000 in
set_option maxHeartbeats 1000000 in
theorem orderB_any (x y : BookT) (W : World) : Calls Try.prog 42 #[.agg #[.int .i64 x.run, .int .i64 x.account, .int .i64 x.amount], .agg #[.int .i64 y.run, .int .i64 y.account, .int .i64 y.amount]] W fun e w' => e = .returned (.int .i64 (cmpB x y)) ∧ ∃ q os', w' = grow (W.drewN q) os' := by
  go_enter Try.func42, Try.ntmps42
  go_wp2
  refine wp_region_still_tail 10 (by kernel_rfl) (by kernel_rfl) ?_
  simp only [List.take_succ_cons, List.take_zero, List.drop_succ_cons, List.drop_zero]
  change wpStill _ _ (World.drew _) (fun a' => wpList _ _ _ _ a' (World.drew _)) _ _
  iterate 4 still_step
  still_call ((compareI_any _ _ _).mono fun e w' ⟨h1, h2⟩ => ⟨h1, h2.symm⟩)
  iterate 4 still_step
  still_call ((compareI_any _ _ _).mono fun e w' ⟨h1, h2⟩ => ⟨h1, h2.symm⟩)
  refine wpStill_nil ?_
  go_wp2_with fail
  refine (or_any (cmpI x.run y.run) (cmpI x.account y.account) _ _ _ _ (by go_simp) (by go_simp)).mono ?_
  rintro e w1 ⟨rfl, rfl⟩
  go_wp2
  go_ret
  exact ⟨rfl, 1, _, by rw [alloc_eq_grow, alloc_eq_grow, alloc_eq_grow, grow_grow, grow_grow]; rfl⟩
theorem ltBk (x y : BookT) : ltOf cmpB x y = lessB x y := by
  rw [lessB, ltB_eq]
  unfold ltOf cmpB orI cmpI
  rcases Int.lt_trichotomy x.run y.run with h | h | h
  · simp [h]
  · rcases Int.lt_trichotomy x.account y.account with g | g | g
    · simp [h, g]
    · simp [h, g]
    · have g1 : ¬ x.account < y.account := by omega
      simp [h, g, g1]
  · have h1 : ¬ x.run < y.run := by omega
    have h2 : ¬ x.run = y.run := by omega
    simp [h, h1, h2]
theorem Rec.ntrans {α κ : Type} {R : Rec α κ} (L : R.Law) (a b c : κ) (h1 : R.lt a b = false) (h2 : R.lt b c = false) : R.lt a c = false := by
  cases h : R.lt a c
  · rfl
  · cases hb : R.lt b a
    · have := L.total _ _ h1 hb
      subst this
      rw [h] at h2; cases h2
    · rw [L.trans _ _ _ hb h] at h2; cases h2
theorem swoB : SWO (ltOf cmpB) where
  irrefl x := by rw [ltBk]; exact RB_law.irrefl _
  trans x y z h1 h2 := by
    rw [ltBk] at *
    exact RB_law.trans _ _ _ h1 h2
  ntrans x y z h1 h2 := by
    rw [ltBk] at *
    exact Rec.ntrans RB_law _ _ _ h1 h2

theorem only_sortB_any (w : World) (blk off n : Nat) (d : Array BookT) (os : Array Obj) : w.grownBy (sortWorldK encB 3 w blk off n d os) (some blk) := by
  refine ⟨rfl, rfl, rfl, size_sortWorldK_c encB 3 w blk off n d os, fun i hi hne => ?_⟩
  have hne' : blk ≠ i := fun e => hne (by rw [e])
  have hsz : (putRowK encB 3 (Sort.ahead w n) blk off d).heap.size = w.heap.size := by simp [putRowK, putRow, mapBlock, Sort.ahead]
  show ((putRowK encB 3 (Sort.ahead w n) blk off d).heap ++ os)[i]? = w.heap[i]?
  rw [Array.getElem?_append_left (by omega)]
  show (w.heap.modify blk _)[i]? = _
  rw [Array.getElem?_modify, if_neg hne']

set_option maxHeartbeats 1000000 in
theorem sortB_any (A : Option Addr) (cap base : Nat) (xs : List BookT) (w : World) (hown : Own encB 3 42 w base (.slice A xs.length cap) xs) (hl : xs.length < 4611686018427387904) :
    Calls Try.prog 41 #[.slice A xs.length cap, .func (.func 42) #[] #[]] w fun e w' => e = .returned (.tuple #[]) ∧
      ∃ ys : List BookT, ys.Perm xs ∧ ys.Pairwise (fun a b => lessB b a = false) ∧ SliceOf encB 3 w' w'.heap.size A ys ∧ Below base w w' := by
  rcases hown.2 with ⟨hv, h0⟩ | ⟨g, cap', cur, hv, hb, hg, hn, hm, hs, ht⟩
  · injection hv with h1 h2 h3
    obtain rfl : xs = [] := List.eq_nil_of_length_eq_zero h0
    have hcon := AnyF.slices_SortFunc_none { Try.sortB with } A cap (.func (.func 42) #[] #[]) w
    refine Calls.mono hcon fun e w' ⟨he, hw⟩ => ⟨he, [], List.Perm.refl _, List.Pairwise.nil, SliceOf.nil_, by rw [hw]; exact Below.refl _ _⟩
  · injection hv with h1 h2 h3
    subst h1 h3
    have hgl := (Array.getElem?_eq_some_iff.1 hg).1
    have eg : ∀ args w, (callFunc 42 args).run Try.prog w = .ok (.enter 42 args) w := enters_of Try.func42 (by kernel_rfl) rfl
    have hcmp : CmpLays Try.prog 42 #[] encB 3 cmpB g 0 xs.toArray.size w := fun _ _ _ _ x y => orderB_any x y _
    have hH : HoldsK encB 3 w g 0 xs.toArray := by
      intro j hj
      rw [size_flatK] at hj
      simp only [List.size_toArray] at hj
      have hdiv : j / 3 < xs.length := by omega
      have hmod : j % 3 < 3 := Nat.mod_lt _ (by omega)
      refine ⟨?_, by simp [World.frozen?, hg]⟩
      rw [get_flatK _ _ _ _ (by simpa using hj), Nat.zero_add, cell_of_row w g j cur _ (0, 0) hg]
      have hx : xs.toArray[j / 3]! = xs[j / 3] := by simp [hdiv]
      rw [hx]
      have hu : (encB xs[j / 3])[j % 3]? = some ((encB xs[j / 3])[j % 3]!) := by
        have hlt : j % 3 < (encB xs[j / 3]).length := by rw [encB_len]; exact hmod
        rw [List.getElem?_eq_getElem hlt, getElem!_pos (encB xs[j / 3]) (j % 3) hlt]
      have h1 := flatMap_at encB_len xs (j / 3) (j % 3) _ _ (List.getElem?_eq_getElem hdiv) hu
      rw [show j / 3 * 3 + j % 3 = j by omega] at h1
      rw [← ht, List.getElem?_take, if_pos (by omega)] at h1
      simpa using h1
    have hcon := AnyQ.slices_SortFunc Try.sortB 3 Try.isAgg42 Try.sizeOf42 encB encB_len encB_one cmpB swoB 42 #[] g 0 cap xs.toArray w eg hcmp hH hgl (by simpa using hl)
    have hcon' : Calls Try.prog 41 #[.slice (some ⟨g, 0, none⟩) xs.length cap, .func (.func 42) #[] #[]] w _ := hcon
    refine hcon'.mono ?_
    rintro e w' ⟨he, d', n, os, hp, hsd, rfl⟩
    obtain ⟨hp1, hp2, hp3⟩ := hp
    refine ⟨he, d'.toList, ?_, ?_, ?_, only_below (only_sortB_any _ _ _ _ _ _) (by omega) (fun q e => by injection e; omega)⟩
    · have e1 : xs.toArray.size = xs.length := by simp
      rw [e1] at hp1 hp3
      have e2 : (d'.extract 0 xs.length) = d' := by rw [← hp1]; simp
      have e3 : (xs.toArray.extract 0 xs.length) = xs.toArray := by simp
      rw [e2, e3] at hp3
      exact hp3
    · rw [List.pairwise_iff_getElem]
      intro i j hi hj hij
      have h1 := hsd i j (Nat.zero_le _) hij (by rw [← hp1]; simpa using hj)
      rw [ltBk, getElem!_pos d' i (by simpa using hi), getElem!_pos d' j (by simpa using hj)] at h1
      simpa using h1
    · intro _
      refine ⟨g, 0, rfl, lt_sortWorldK encB 3 w g 0 n d' os hgl, fun i x hi j u hu => ?_⟩
      have hH' := holdsK_sortWorldK_c encB 3 w g 0 xs.toArray d' n os hH hgl hp1
      have hil : i < d'.size := by simpa using (List.getElem?_eq_some_iff.1 hi).1
      have hjl : j < 3 := by have := (List.getElem?_eq_some_iff.1 hu).1; rwa [encB_len] at this
      have h1 := (hH' (i * 3 + j) (by rw [size_flatK]; omega)).1
      rw [get_flatK _ _ _ _ (by omega), show (i * 3 + j) / 3 = i by omega, show (i * 3 + j) % 3 = j by omega, getElem!_pos d' i hil] at h1
      have hx : d'[i] = x := by
        have := (List.getElem?_eq_some_iff.1 hi).2
        simpa using this
      rw [hx] at h1
      have hu2 : (encB x)[j]! = u := by
        have hlt := (List.getElem?_eq_some_iff.1 hu).1
        rw [getElem!_pos (encB x) j hlt]
        exact (List.getElem?_eq_some_iff.1 hu).2
      rw [hu2] at h1
      rw [Nat.zero_add]
      rw [Nat.zero_add] at h1
      exact h1

end Go.Proofs.Ytbiajkknpkeeoaa
