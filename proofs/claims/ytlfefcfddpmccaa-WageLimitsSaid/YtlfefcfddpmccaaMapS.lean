/- Contract of wage.sums: what it makes of a map of sums. Conditions: as stated. -/
import Derived.Test.YtlfefcfddpmccaaSort
import Derived.Maps.RangeWalk
import Derived.Maps.OwnOps
import Derived.Maps.Ext
import Derived.Sort.KeysCollected
namespace Go.Proofs.Ytlfefcfddpmccaa
open Go.RowKit Go.Sort Go.Shelf Go.Maps

theorem lawS : Keyed Try.prog 9 := string_keyed Try.underlying9
theorem zeroI (w : World) : (zeroValue 3).run Try.prog w = .ok (.int .i64 0) w := by kernel_rfl
def key (c : ByteArray) : Lit := .string c.data.toList
abbrev i64L (n : Int) : DataW Unit := .lit (.int .i64 n)

/-- The map as read has the keys K and at each the number T. -/
structure MapD (D : DataW Unit) (K : List UInt8 → Bool) (T : List UInt8 → Int) : Prop where
  isMap : IsMap D
  has : ∀ c, Maps.has D (.string c) = K c
  at_ : ∀ c, D.atKey (.string c) (i64L 0) = i64L (T c)

/-- What has been collected when 'left' is still to come. -/
structure Col (K : List UInt8 → Bool) (T : List UInt8 → Int) (left : Lit → Bool) (ys : List Elem) : Prop where
  sound : ∀ x ∈ ys, K x.code.data.toList = true ∧ x.amount = T x.code.data.toList ∧ x.amount ≠ 0 ∧ left (key x.code) = false
  full : ∀ c, K c = true → left (.string c) = false → amtB (T c) = true ∧ (T c ≠ 0 → ∃ x ∈ ys, x.code.data.toList = c)
  nodup : ys.Pairwise (fun a b => a.code ≠ b.code)

theorem Col.start {D : DataW Unit} {K : List UInt8 → Bool} {T : List UInt8 → Int} (h : MapD D K T) : Col K T (Maps.has D) [] :=
  ⟨by simp, (fun c hc hl => by rw [h.has c, hc] at hl; cases hl), List.Pairwise.nil⟩
theorem key_inj {a b : ByteArray} (h : key a = key b) : a = b := by
  obtain ⟨⟨l⟩⟩ := a
  obtain ⟨⟨m⟩⟩ := b
  simp [key] at h
  rw [h]
theorem Col.step {K : List UInt8 → Bool} {T : List UInt8 → Int} {left : Lit → Bool} {ys : List Elem} (h : Col K T left ys) {s : ByteArray} {c : Int} (hl : left (key s) = true) (hK : K s.data.toList = true) (hT : T s.data.toList = c) (ha : amtB c = true) :
    (c ≠ 0 → Col K T (fun z => left z && !z.sameKey (key s)) (ys ++ [⟨s, c⟩])) ∧ (c = 0 → Col K T (fun z => left z && !z.sameKey (key s)) ys) := by
  have hself : (key s).sameKey (key s) = true := WideAt.sameKey_self trivial
  have hsound : ∀ x ∈ ys, K x.code.data.toList = true ∧ x.amount = T x.code.data.toList ∧ x.amount ≠ 0 ∧ (left (key x.code) && !(key x.code).sameKey (key s)) = false := by
    intro x hx
    obtain ⟨h1, h2, h3, h4⟩ := h.sound x hx
    exact ⟨h1, h2, h3, by simp [h4]⟩
  have hfull : ∀ d, K d = true → (left (.string d) && !(Lit.string d).sameKey (key s)) = false → (amtB (T d) = true ∧ (T d ≠ 0 → d ≠ s.data.toList → ∃ x ∈ ys, x.code.data.toList = d)) := by
    intro d hd hld
    by_cases e : d = s.data.toList
    · subst e
      exact ⟨by rw [hT]; exact ha, fun _ h => absurd rfl h⟩
    · have hne : (Lit.string d).sameKey (key s) = false := sameKey_ne (fun e' => e (by simpa [key] using e'))
      rw [hne] at hld
      simp at hld
      obtain ⟨g1, g2⟩ := h.full d hd hld
      exact ⟨g1, fun h0 _ => g2 h0⟩
  refine ⟨fun hc => ⟨fun x hx => ?_, fun d hd hld => ?_, ?_⟩, fun hc => ⟨hsound, fun d hd hld => ?_, h.nodup⟩⟩
  · rcases List.mem_append.1 hx with h1 | h1
    · exact hsound x h1
    · simp at h1
      subst h1
      exact ⟨hK, hT.symm, hc, by show (left (key s) && !(key s).sameKey (key s)) = false; rw [hself]; simp⟩
  · obtain ⟨g1, g2⟩ := hfull d hd hld
    refine ⟨g1, fun h0 => ?_⟩
    by_cases e : d = s.data.toList
    · exact ⟨⟨s, c⟩, by simp, e.symm⟩
    · obtain ⟨x, hx, hxe⟩ := g2 h0 e
      exact ⟨x, by simp [hx], hxe⟩
  · rw [List.pairwise_append]
    refine ⟨h.nodup, List.pairwise_singleton _ _, fun a ha' b hb => ?_⟩
    simp at hb
    subst hb
    intro e
    have := (h.sound a ha').2.2.2
    rw [show key a.code = key s by rw [e], hl] at this
    cases this
  · obtain ⟨g1, g2⟩ := hfull d hd hld
    refine ⟨g1, fun h0 => ?_⟩
    by_cases e : d = s.data.toList
    · subst e; rw [hT] at h0; exact absurd hc h0
    · exact g2 h0 e

theorem length_insert1 (x : Lit × DataW Unit) : ∀ l, (DataW.insert x l).length = l.length + 1
  | [] => rfl
  | y :: l => by
    rw [DataW.insert]
    split
    · rfl
    · simp [length_insert1 x l]
theorem length_insertAll (l : List (Lit × DataW Unit)) : (l.foldr DataW.insert []).length = l.length := by
  induction l with
  | nil => rfl
  | cons a l ih => rw [List.foldr_cons, length_insert1, ih]; rfl
theorem strict_of {zs : List Elem} (h1 : zs.Pairwise (fun a b => lessE b a = false)) (h2 : zs.Pairwise (fun a b => a.code ≠ b.code)) : zs.Pairwise (fun a b => lessE a b = true) := by
  refine (h1.and h2).imp ?_
  rintro a b ⟨hab, hne⟩
  rw [lessE, less_eq] at hab ⊢
  simp only [decide_eq_false_iff_not, List.not_lt, decide_eq_true_eq] at hab ⊢
  have hne' : a.code.toList ≠ b.code.toList := by
    intro e
    apply hne
    rw [ByteArray.toList_eq, ByteArray.toList_eq] at e
    exact key_inj (by simp [key, e])
  exact Decidable.byContradiction fun h => hne' (List.le_antisymm hab (List.not_lt.1 h))

/-- What wage.sums hands back. -/
def SumsPost (K : List UInt8 → Bool) (T : List UInt8 → Int) (n : Nat) (w : World) (e : Ending) (w' : World) : Prop :=
  Below w.heap.size w w' ∧ (((∃ c, K c = true ∧ amtB (T c) = false) ∧ e = .returned (.tuple #[.slice none 0 0, .int .i64 4])) ∨
    ((∀ c, K c = true → amtB (T c) = true) ∧ ∃ A cap ys, e = .returned (.tuple #[.slice A ys.length cap, .int .i64 0]) ∧ SliceOf encE 2 w' w'.heap.size A ys ∧ ys.length ≤ n ∧ ys.length ≤ cap ∧ cap ≤ maxLen ∧
      ys.Pairwise (fun a b => lessE a b = true) ∧ ∀ x : Elem, x ∈ ys ↔ (K x.code.data.toList = true ∧ x.amount = T x.code.data.toList ∧ x.amount ≠ 0)))

set_option maxRecDepth 100000 in
set_option maxHeartbeats 2000000 in
theorem sumsG_any (B n : Nat) (D : DataW Unit) (K : List UInt8 → Bool) (T : List UInt8 → Int) (w : World) (hown : w.ownsMap Try.prog 9 (plainElem (H := Unit) Try.prog 3) B n D) (hD : MapD D K T) (hn : n ≤ 100000) :
    Calls Try.prog 36 #[.map (some B)] w (SumsPost K T n w) := by
  have hBl : B < w.heap.size := by
    obtain ⟨es, clock, hb, _⟩ := hown
    exact (Array.getElem?_eq_some_iff.1 hb).1
  have hsize : Maps.size D ≤ n := by
    obtain ⟨es, clock, _, _, hn', rfl⟩ := hown
    rw [Maps.size_eq, length_insertAll]
    simpa using hn'
  go_enter Try.func36, Try.ntmps36
  go_wp2_with (at_range; refine wpList_range_own _ (by rfl) _ 65 (by rfl) 9 3 lawS Try.underlying65 (plainElem (H := Unit) Try.prog 3) B n D (by rfl) hown ?_; intro w0 hrg0 hg0 hs0)
  go_frame
  go_loopw [4, 5] (fun v _ wr => ∃ left cnt ys, wr.ranges Try.prog 9 (plainElem (H := Unit) Try.prog 3) B w.heap.size n D left cnt ∧ Own encE 2 44 wr (w.heap.size + 1) v ys ∧ Col K T left ys ∧ ys.length + cnt ≤ n ∧ Below w.heap.size w wr) (fun _ _ wr => wr.rangeLeft B w.heap.size)
  case atStart => exact ⟨_, _, [], hrg0, Own.nil_ _ _, Col.start hD, by simpa using hsize, only_below hg0 (Nat.le_refl _) (by simp)⟩
  case round =>
    obtain ⟨left, cnt, ys, hrg, hrow, hcol, hlen, hbel⟩ := hrel
    have hbs := hbel.size
    have hrs := hrg.lt
    go_wp2_with (at_next; refine wpList_next_ranges _ (by rfl) _ (by rfl) 9 lawS (plainElem (H := Unit) Try.prog 3) Value.string (Value.int .i64) (fun key kl hk => by obtain ⟨x, hx, _⟩ := Maps.keyOf_str Try.underlying9 hk; exact ⟨_, hx⟩) (fun v y hv => by obtain ⟨c, hc, _⟩ := plainElem_int_inv Try.underlying3 hv; exact ⟨c, hc⟩) B w.heap.size n _ _ _ (by rfl) hrg ?_ ?_)
    · intro hc0 hl0
      obtain ⟨A5, c5, rfl, hS5, hB5, hlc5, hcm5⟩ := hrow.form2 encE_len
      go_wp2_with fail
      refine (sortE_any A5 c5 (w.heap.size + 1) ys _ hrow (by omega)).mono ?_
      rintro e w1 ⟨rfl, zs, hp, hsd, hSz, hb1⟩
      have hlz := hp.length_eq
      go_wp2
      go_ret2
      refine ⟨hbel.trans (hb1.mono (by omega)), .inr ⟨fun c hc => (hcol.full c hc (hl0 _)).1, A5, c5, zs, by rw [hlz]; rfl, hSz, by omega, by omega, hcm5, ?_, fun x => ?_⟩⟩
      · exact strict_of hsd (hcol.nodup.perm hp.symm (fun h e => h e.symm))
      · rw [hp.mem_iff]
        refine ⟨fun hx => ⟨(hcol.sound x hx).1, (hcol.sound x hx).2.1, (hcol.sound x hx).2.2.1⟩, fun ⟨h1, h2, h3⟩ => ?_⟩
        obtain ⟨y, hy, hye⟩ := (hcol.full _ h1 (hl0 _)).2 (by rw [← h2]; exact h3)
        have hyx : y = x := by
          obtain ⟨_, g2, _⟩ := hcol.sound y hy
          have hc : y.code = x.code := key_inj (by simp [key, hye])
          obtain ⟨a, b⟩ := y
          obtain ⟨c, d⟩ := x
          simp only at hc g2 h2
          subst hc
          rw [g2, h2]
        rw [← hyx]; exact hy
    · intro s c kl yd yp w2 cnt2 hkey hlk hv hat hrg2 hlt hg2 hs2 hen
      obtain ⟨x', hx', rfl, hxl⟩ := Maps.keyOf_str Try.underlying9 hkey
      have hsx : x' = s.data.toList := by
        have h1 : s = ⟨x'.toArray⟩ := by simpa [encStr] using hx'
        rw [h1]
      subst hsx
      have hyd : yd = i64L c := by
        obtain ⟨c', h1, h2, _⟩ := plainElem_int_inv Try.underlying3 hv
        injection h1 with _ h1
        subst h1
        injection h2
      have hKs : K s.data.toList = true := by rw [← hD.has]; exact has_true_of_atKey hat
      have hTs : T s.data.toList = c := by
        have h1 := hD.at_ s.data.toList
        rw [hat, hyd] at h1
        injection h1 with h1
        injection h1 with _ h1
        exact h1.symm
      have hlk' : left (key s) = true := hlk
      have hrow2 := hrow.kept hg2 (by intro g e; injection e; omega)
      have hbel2 : Below w.heap.size w w2 := hbel.grown hg2 hbs (by intro g e; injection e; omega)
      have hbs2 := hbel2.size
      have hrs2 := hrg2.lt
      have HT := Lib.hid hTs
      clear hs2 hat hkey hx' hv hyd hTs
      by_cases ha : amtB c = true
      · have HST := Lib.hid (hcol.step hlk' hKs HT.out ha)
        by_cases hc0 : c = 0
        · have hn0 : (c != 0) = false := by simp [hc0]
          have hcol2 := HST.out.2 hc0
          clear hc0
          go_wp2_with (go_at_call 35; refine (isAmount_any _ _).mono ?_; rintro e w' ⟨rfl, rfl⟩)
          go_roundw
          case rel =>
            have hf : ∃ left cnt ys, w2.ranges Try.prog 9 (plainElem (H := Unit) Try.prog 3) B w.heap.size n D left cnt ∧ Own encE 2 44 w2 (w.heap.size + 1) u4 ys ∧ Col K T left ys ∧ ys.length + cnt ≤ n ∧ Below w.heap.size w w2 := ⟨_, _, ys, hrg2, hrow2, hcol2, by omega, hbel2⟩
            first | exact hf | ((repeat apply Exists.intro); exact ⟨hf, rfl⟩)
          case measure => rw [hrg2.left_eq, hrg.left_eq]; omega
        · have hn0 : (c != 0) = true := by simp [hc0]
          have hcol2 := HST.out.1 hc0
          have hne : some B ≠ u4.ownBlock := fun e => by have := (hrow2.block_lt e.symm).1; omega
          have hne2 : some w.heap.size ≠ u4.ownBlock := fun e => by have := (hrow2.block_lt e.symm).1; omega
          have hr4 := fun g hg => (hrow2.block_lt (g := g) hg).1
          clear hc0
          go_wp2_with (first | (go_at_call 35; refine (isAmount_any _ _).mono ?_; rintro e w' ⟨rfl, rfl⟩) | (at_builtin; (refine wpList_append_one _ _ 38 ⟨s, c⟩ _ 24 _ infoE Try.underlying38 hrow2 encE_len (by omega) rfl (encE_one _) (by omega) (by omega) (by omega) (by rfl) (by rfl) (by rfl) (by rfl) (by simp) (by rfl) ?_); intro v2 w6 hown7 hg7))
          go_roundw
          case rel =>
            have hf : ∃ left cnt ys, w6.ranges Try.prog 9 (plainElem (H := Unit) Try.prog 3) B w.heap.size n D left cnt ∧ Own encE 2 44 w6 (w.heap.size + 1) v2 ys ∧ Col K T left ys ∧ ys.length + cnt ≤ n ∧ Below w.heap.size w w6 := ⟨_, _, _, hrg2.kept hg7 hne hne2, hown7, hcol2, by simp; omega, hbel2.grown hg7 hbs2 (fun g hg => by have := hr4 g hg; omega)⟩
            first | exact hf | ((repeat apply Exists.intro); exact ⟨hf, rfl⟩)
          case measure => rw [(hrg2.kept hg7 hne hne2).left_eq, hrg.left_eq]; omega
      · have ha' : amtB c = false := by simpa using ha
        clear ha
        go_wp2_with (go_at_call 35; refine (isAmount_any _ _).mono ?_; rintro e w' ⟨rfl, rfl⟩)
        go_ret2
        exact ⟨hbel2, .inl ⟨⟨_, hKs, by rw [HT.out]; exact ha'⟩, rfl⟩⟩

end Go.Proofs.Ytlfefcfddpmccaa
