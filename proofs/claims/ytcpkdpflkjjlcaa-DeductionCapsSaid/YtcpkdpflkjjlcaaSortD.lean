/- Contracts of deduction's comparators and of slices.SortFunc at deductions and at elements with them. Conditions: fewer than 2^62 records. -/
import Derived.Test.YtcpkdpflkjjlcaaShelf
import Derived.Test.YtcpkdpflkjjlcaaShelfD
import Derived.Test.YtcpkdpflkjjlcaaCmp
import Derived.Test.YtcpkdpflkjjlcaaDedP
import Derived.StillTailTactics
namespace Go.Proofs.Ytcpkdpflkjjlcaa
open Go.RowKit Go.Sort Go.Shelf

def cmpE (x y : Elem) : Int := cmpS x.code y.code
instance : Inhabited Elem := ⟨⟨⟨#[]⟩, 0⟩⟩
def cmpD (x y : DedT) : Int := orI (cmpI x.rank y.rank) (cmpS x.code y.code)
instance : Inhabited DedT := ⟨⟨⟨#[]⟩, 0, false, 0, 0, 0⟩⟩
theorem ltE (x y : Elem) : ltOf cmpE x y = lessE x y := by
  unfold ltOf cmpE cmpS lessE
  split
  · rename_i h; simp [h]
  · rename_i h
    have h' : Op.bytesLess x.code.toList y.code.toList = false := by simpa using h
    split <;> simp [h']
theorem swoE : SWO (ltOf cmpE) where
  irrefl x := by rw [ltE, lessE, less_eq]; simp
  trans x y z h1 h2 := by
    rw [ltE, lessE, less_eq] at *
    simp only [decide_eq_true_eq] at *
    exact List.lt_trans h1 h2
  ntrans x y z h1 h2 := by
    rw [ltE, lessE, less_eq] at *
    simp only [decide_eq_false_iff_not, List.not_lt] at *
    exact List.le_trans h2 h1
set_option maxHeartbeats 1000000 in
theorem byCode_any (x y : Elem) (W : World) : Calls Try.prog 48 #[.agg #[.string x.code, .int .i64 x.amount], .agg #[.string y.code, .int .i64 y.amount]] W fun e w' => e = .returned (.int .i64 (cmpE x y)) ∧ ∃ q os', w' = grow (W.drewN q) os' := by
  go_enter Try.func48, Try.ntmps48
  go_wp2_with (go_at_call 45; refine (compare_any _ _ _).mono ?_; rintro e w' ⟨rfl, rfl⟩)
  go_ret
  exact ⟨rfl, 0, _, by rw [alloc_eq_grow, alloc_eq_grow, grow_grow]; rfl⟩

theorem only_sortE_any (w : World) (blk off n : Nat) (d : Array Elem) (os : Array Obj) : w.grownBy (sortWorldK encE 2 w blk off n d os) (some blk) := by
  refine ⟨rfl, rfl, rfl, size_sortWorldK_c encE 2 w blk off n d os, fun i hi hne => ?_⟩
  have hne' : blk ≠ i := fun e => hne (by rw [e])
  have hsz : (putRowK encE 2 (Sort.ahead w n) blk off d).heap.size = w.heap.size := by simp [putRowK, putRow, mapBlock, Sort.ahead]
  show ((putRowK encE 2 (Sort.ahead w n) blk off d).heap ++ os)[i]? = w.heap[i]?
  rw [Array.getElem?_append_left (by omega)]
  show (w.heap.modify blk _)[i]? = _
  rw [Array.getElem?_modify, if_neg hne']

set_option maxHeartbeats 1000000 in
theorem sortE_any (A : Option Addr) (cap base : Nat) (xs : List Elem) (w : World) (hown : Own encE 2 60 w base (.slice A xs.length cap) xs) (hl : xs.length < 4611686018427387904) :
    Calls Try.prog 47 #[.slice A xs.length cap, .func (.func 48) #[] #[]] w fun e w' => e = .returned (.tuple #[]) ∧
      ∃ ys : List Elem, ys.Perm xs ∧ ys.Pairwise (fun a b => lessE b a = false) ∧ SliceOf encE 2 w' w'.heap.size A ys ∧ Below base w w' := by
  rcases hown.2 with ⟨hv, h0⟩ | ⟨g, cap', cur, hv, hb, hg, hn, hm, hs, ht⟩
  · injection hv with h1 h2 h3
    obtain rfl : xs = [] := List.eq_nil_of_length_eq_zero h0
    have hcon := AnyF.slices_SortFunc_none { Try.sortE with } A cap (.func (.func 48) #[] #[]) w
    refine Calls.mono hcon fun e w' ⟨he, hw⟩ => ⟨he, [], List.Perm.refl _, List.Pairwise.nil, SliceOf.nil_, by rw [hw]; exact Below.refl _ _⟩
  · injection hv with h1 h2 h3
    subst h1 h3
    have hgl := (Array.getElem?_eq_some_iff.1 hg).1
    have eg : ∀ args w, (callFunc 48 args).run Try.prog w = .ok (.enter 48 args) w := enters_of Try.func48 (by kernel_rfl) rfl
    have hcmp : CmpLays Try.prog 48 #[] encE 2 cmpE g 0 xs.toArray.size w := fun _ _ _ _ x y => byCode_any x y _
    have hH : HoldsK encE 2 w g 0 xs.toArray := by
      intro j hj
      rw [size_flatK] at hj
      simp only [List.size_toArray] at hj
      have hdiv : j / 2 < xs.length := by omega
      have hmod : j % 2 < 2 := Nat.mod_lt _ (by omega)
      refine ⟨?_, by simp [World.frozen?, hg]⟩
      rw [get_flatK _ _ _ _ (by simpa using hj), Nat.zero_add, cell_of_row w g j cur _ (0, 0) hg]
      have hx : xs.toArray[j / 2]! = xs[j / 2] := by simp [hdiv]
      rw [hx]
      have hu : (encE xs[j / 2])[j % 2]? = some ((encE xs[j / 2])[j % 2]!) := by
        have hlt : j % 2 < (encE xs[j / 2]).length := by rw [encE_len]; exact hmod
        rw [List.getElem?_eq_getElem hlt, getElem!_pos (encE xs[j / 2]) (j % 2) hlt]
      have h1 := flatMap_at encE_len xs (j / 2) (j % 2) _ _ (List.getElem?_eq_getElem hdiv) hu
      rw [show j / 2 * 2 + j % 2 = j by omega] at h1
      rw [← ht, List.getElem?_take, if_pos (by omega)] at h1
      simpa using h1
    have hcon := AnyQ.slices_SortFunc Try.sortE 2 Try.isAgg60 Try.sizeOf60 encE encE_len encE_one cmpE swoE 48 #[] g 0 cap xs.toArray w eg hcmp hH hgl (by simpa using hl)
    have hcon' : Calls Try.prog 47 #[.slice (some ⟨g, 0, none⟩) xs.length cap, .func (.func 48) #[] #[]] w _ := hcon
    refine hcon'.mono ?_
    rintro e w' ⟨he, d', n, os, hp, hsd, rfl⟩
    obtain ⟨hp1, hp2, hp3⟩ := hp
    refine ⟨he, d'.toList, ?_, ?_, ?_, only_below (only_sortE_any _ _ _ _ _ _) (by omega) (fun q e => by injection e; omega)⟩
    · have e1 : xs.toArray.size = xs.length := by simp
      rw [e1] at hp1 hp3
      have e2 : (d'.extract 0 xs.length) = d' := by rw [← hp1]; simp
      have e3 : (xs.toArray.extract 0 xs.length) = xs.toArray := by simp
      rw [e2, e3] at hp3
      exact hp3
    · rw [List.pairwise_iff_getElem]
      intro i j hi hj hij
      have h1 := hsd i j (Nat.zero_le _) hij (by rw [← hp1]; simpa using hj)
      rw [ltE, getElem!_pos d' i (by simpa using hi), getElem!_pos d' j (by simpa using hj)] at h1
      simpa using h1
    · intro _
      refine ⟨g, 0, rfl, lt_sortWorldK encE 2 w g 0 n d' os hgl, fun i x hi j u hu => ?_⟩
      have hH' := holdsK_sortWorldK_c encE 2 w g 0 xs.toArray d' n os hH hgl hp1
      have hil : i < d'.size := by simpa using (List.getElem?_eq_some_iff.1 hi).1
      have hjl : j < 2 := by have := (List.getElem?_eq_some_iff.1 hu).1; rwa [encE_len] at this
      have h1 := (hH' (i * 2 + j) (by rw [size_flatK]; omega)).1
      rw [get_flatK _ _ _ _ (by omega), show (i * 2 + j) / 2 = i by omega, show (i * 2 + j) % 2 = j by omega, getElem!_pos d' i hil] at h1
      have hx : d'[i] = x := by
        have := (List.getElem?_eq_some_iff.1 hi).2
        simpa using this
      rw [hx] at h1
      have hu2 : (encE x)[j]! = u := by
        have hlt := (List.getElem?_eq_some_iff.1 hu).1
        rw [getElem!_pos (encE x) j hlt]
        exact (List.getElem?_eq_some_iff.1 hu).2
      rw [hu2] at h1
      rw [Nat.zero_add]
      rw [Nat.zero_add] at h1
      exact h1

instance (x y : DedT) : Decidable (LtD x y) := by unfold LtD; infer_instance
def lessD (x y : DedT) : Bool := decide (LtD x y)
theorem cmpS_neg (a b : ByteArray) : decide (cmpS a b < 0) = decide (a.data.toList < b.data.toList) := by
  unfold cmpS
  rw [less_eq, ByteArray.toList_eq, ByteArray.toList_eq]
  split
  · rename_i h
    have h' : a.data.toList < b.data.toList := of_decide_eq_true h
    simp only [h', decide_true]; decide
  · rename_i h
    have h' : ¬ a.data.toList < b.data.toList := fun hh => h (decide_eq_true hh)
    simp only [h', decide_false]
    split <;> decide
theorem ltD (x y : DedT) : ltOf cmpD x y = lessD x y := by
  have hS := cmpS_neg x.code y.code
  unfold ltOf cmpD orI cmpI lessD LtD
  rcases Int.lt_trichotomy x.rank y.rank with h | h | h
  · simp [h]
  · simp only [h, Int.lt_irrefl, if_false, ne_eq, not_true, false_or, true_and]
    exact hS
  · have h1 : ¬ x.rank < y.rank := by omega
    have h2 : ¬ x.rank = y.rank := by omega
    simp [h, h1, h2]
theorem swoD : SWO (ltOf cmpD) where
  irrefl x := by rw [ltD, lessD]; exact decide_eq_false (LtD.irr x)
  trans x y z h1 h2 := by
    rw [ltD, lessD] at *
    exact decide_eq_true (LtD.tr x y z (of_decide_eq_true h1) (of_decide_eq_true h2))
  ntrans x y z h1 h2 := by
    rw [ltD, lessD] at *
    have g1 := of_decide_eq_false h1
    have g2 := of_decide_eq_false h2
    apply decide_eq_false
    rintro (h | ⟨h, hc⟩)
    · rcases Int.lt_trichotomy x.rank y.rank with e | e | e
      · exact g1 (.inl e)
      · exact g2 (.inl (by omega))
      · exact g2 (.inl (by omega))
    · rcases Int.lt_trichotomy x.rank y.rank with e | e | e
      · exact g1 (.inl e)
      · have k1 : y.code.data.toList ≤ x.code.data.toList := List.not_lt.1 (fun hh => g1 (.inr ⟨e, hh⟩))
        have k2 : z.code.data.toList ≤ y.code.data.toList := List.not_lt.1 (fun hh => g2 (.inr ⟨by omega, hh⟩))
        exact absurd hc (List.not_lt.2 (List.le_trans k2 k1))
      · exact g2 (.inl (by omega))
set_option maxRecDepth 100000 in
set_option maxHeartbeats 1000000 in
theorem orderD_any (x y : DedT) (W : World) : Calls Try.prog 42 #[.agg #[.string x.code, .int .i64 x.rank, .bool x.before, .int .i64 x.amount, .int .i64 x.rate, .int .i64 x.cap], .agg #[.string y.code, .int .i64 y.rank, .bool y.before, .int .i64 y.amount, .int .i64 y.rate, .int .i64 y.cap]] W fun e w' => e = .returned (.int .i64 (cmpD x y)) ∧ ∃ q os', w' = grow (W.drewN q) os' := by
  go_enter Try.func42, Try.ntmps42
  go_wp2
  refine wp_region_still_tail 10 (by kernel_rfl) (by kernel_rfl) ?_
  simp only [List.take_succ_cons, List.take_zero, List.drop_succ_cons, List.drop_zero]
  change wpStill _ _ (World.drew _) (fun a' => wpList _ _ _ _ a' (World.drew _)) _ _
  iterate 4 still_step
  still_call ((compareI_any _ _ _).mono fun e w' ⟨h1, h2⟩ => ⟨h1, h2.symm⟩)
  iterate 4 still_step
  still_call ((compare_any _ _ _).mono fun e w' ⟨h1, h2⟩ => ⟨h1, h2.symm⟩)
  refine wpStill_nil ?_
  go_wp2_with fail
  refine (or_any (cmpI x.rank y.rank) (cmpS x.code y.code) _ _ _ _ (by go_simp) (by go_simp)).mono ?_
  rintro e w1 ⟨rfl, rfl⟩
  go_wp2
  go_ret
  exact ⟨rfl, 1, _, by rw [alloc_eq_grow, alloc_eq_grow, alloc_eq_grow, grow_grow, grow_grow]; rfl⟩

theorem only_sortD_any (w : World) (blk off n : Nat) (d : Array DedT) (os : Array Obj) : w.grownBy (sortWorldK encD 6 w blk off n d os) (some blk) := by
  refine ⟨rfl, rfl, rfl, size_sortWorldK_c encD 6 w blk off n d os, fun i hi hne => ?_⟩
  have hne' : blk ≠ i := fun e => hne (by rw [e])
  have hsz : (putRowK encD 6 (Sort.ahead w n) blk off d).heap.size = w.heap.size := by simp [putRowK, putRow, mapBlock, Sort.ahead]
  show ((putRowK encD 6 (Sort.ahead w n) blk off d).heap ++ os)[i]? = w.heap[i]?
  rw [Array.getElem?_append_left (by omega)]
  show (w.heap.modify blk _)[i]? = _
  rw [Array.getElem?_modify, if_neg hne']

set_option maxHeartbeats 1000000 in
theorem sortD_any (A : Option Addr) (cap base : Nat) (xs : List DedT) (w : World) (hown : Own encD 6 33 w base (.slice A xs.length cap) xs) (hl : xs.length < 4611686018427387904) :
    Calls Try.prog 41 #[.slice A xs.length cap, .func (.func 42) #[] #[]] w fun e w' => e = .returned (.tuple #[]) ∧
      ∃ ys : List DedT, ys.Perm xs ∧ ys.Pairwise (fun a b => lessD b a = false) ∧ SliceOf encD 6 w' w'.heap.size A ys ∧ Below base w w' := by
  rcases hown.2 with ⟨hv, h0⟩ | ⟨g, cap', cur, hv, hb, hg, hn, hm, hs, ht⟩
  · injection hv with h1 h2 h3
    obtain rfl : xs = [] := List.eq_nil_of_length_eq_zero h0
    have hcon := AnyF.slices_SortFunc_none { Try.sortD with } A cap (.func (.func 42) #[] #[]) w
    refine Calls.mono hcon fun e w' ⟨he, hw⟩ => ⟨he, [], List.Perm.refl _, List.Pairwise.nil, SliceOf.nil_, by rw [hw]; exact Below.refl _ _⟩
  · injection hv with h1 h2 h3
    subst h1 h3
    have hgl := (Array.getElem?_eq_some_iff.1 hg).1
    have eg : ∀ args w, (callFunc 42 args).run Try.prog w = .ok (.enter 42 args) w := enters_of Try.func42 (by kernel_rfl) rfl
    have hcmp : CmpLays Try.prog 42 #[] encD 6 cmpD g 0 xs.toArray.size w := fun _ _ _ _ x y => orderD_any x y _
    have hH : HoldsK encD 6 w g 0 xs.toArray := by
      intro j hj
      rw [size_flatK] at hj
      simp only [List.size_toArray] at hj
      have hdiv : j / 6 < xs.length := by omega
      have hmod : j % 6 < 6 := Nat.mod_lt _ (by omega)
      refine ⟨?_, by simp [World.frozen?, hg]⟩
      rw [get_flatK _ _ _ _ (by simpa using hj), Nat.zero_add, cell_of_row w g j cur _ (0, 0) hg]
      have hx : xs.toArray[j / 6]! = xs[j / 6] := by simp [hdiv]
      rw [hx]
      have hu : (encD xs[j / 6])[j % 6]? = some ((encD xs[j / 6])[j % 6]!) := by
        have hlt : j % 6 < (encD xs[j / 6]).length := by rw [encD_len]; exact hmod
        rw [List.getElem?_eq_getElem hlt, getElem!_pos (encD xs[j / 6]) (j % 6) hlt]
      have h1 := flatMap_at encD_len xs (j / 6) (j % 6) _ _ (List.getElem?_eq_getElem hdiv) hu
      rw [show j / 6 * 6 + j % 6 = j by omega] at h1
      rw [← ht, List.getElem?_take, if_pos (by omega)] at h1
      simpa using h1
    have hcon := AnyQ.slices_SortFunc Try.sortD 6 Try.isAgg33 Try.sizeOf33 encD encD_len encD_one cmpD swoD 42 #[] g 0 cap xs.toArray w eg hcmp hH hgl (by simpa using hl)
    have hcon' : Calls Try.prog 41 #[.slice (some ⟨g, 0, none⟩) xs.length cap, .func (.func 42) #[] #[]] w _ := hcon
    refine hcon'.mono ?_
    rintro e w' ⟨he, d', n, os, hp, hsd, rfl⟩
    obtain ⟨hp1, hp2, hp3⟩ := hp
    refine ⟨he, d'.toList, ?_, ?_, ?_, only_below (only_sortD_any _ _ _ _ _ _) (by omega) (fun q e => by injection e; omega)⟩
    · have e1 : xs.toArray.size = xs.length := by simp
      rw [e1] at hp1 hp3
      have e2 : (d'.extract 0 xs.length) = d' := by rw [← hp1]; simp
      have e3 : (xs.toArray.extract 0 xs.length) = xs.toArray := by simp
      rw [e2, e3] at hp3
      exact hp3
    · rw [List.pairwise_iff_getElem]
      intro i j hi hj hij
      have h1 := hsd i j (Nat.zero_le _) hij (by rw [← hp1]; simpa using hj)
      rw [ltD, getElem!_pos d' i (by simpa using hi), getElem!_pos d' j (by simpa using hj)] at h1
      simpa using h1
    · intro _
      refine ⟨g, 0, rfl, lt_sortWorldK encD 6 w g 0 n d' os hgl, fun i x hi j u hu => ?_⟩
      have hH' := holdsK_sortWorldK_c encD 6 w g 0 xs.toArray d' n os hH hgl hp1
      have hil : i < d'.size := by simpa using (List.getElem?_eq_some_iff.1 hi).1
      have hjl : j < 6 := by have := (List.getElem?_eq_some_iff.1 hu).1; rwa [encD_len] at this
      have h1 := (hH' (i * 6 + j) (by rw [size_flatK]; omega)).1
      rw [get_flatK _ _ _ _ (by omega), show (i * 6 + j) / 6 = i by omega, show (i * 6 + j) % 6 = j by omega, getElem!_pos d' i hil] at h1
      have hx : d'[i] = x := by
        have := (List.getElem?_eq_some_iff.1 hi).2
        simpa using this
      rw [hx] at h1
      have hu2 : (encD x)[j]! = u := by
        have hlt := (List.getElem?_eq_some_iff.1 hu).1
        rw [getElem!_pos (encD x) j hlt]
        exact (List.getElem?_eq_some_iff.1 hu).2
      rw [hu2] at h1
      rw [Nat.zero_add]
      rw [Nat.zero_add] at h1
      exact h1

end Go.Proofs.Ytcpkdpflkjjlcaa
