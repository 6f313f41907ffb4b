/- A map of the call's own with keys of whatever kind that has a law, and integers: how 'm[k] += x' goes, in whatever order; and what is collected while a map is ranged over. Conditions: as stated. -/
import Derived.Test.YtbiajkknpkeeoaaRec
import Derived.Test.YtbiajkknpkeeoaaData2
import Derived.WideKeyEntry
import Derived.Maps.RangeWalk
import Derived.Maps.OwnOps
import Derived.Maps.Ext
import Derived.Sort.KeysCollected
namespace Go.Proofs.Ytbiajkknpkeeoaa
open Go.RowKit Go.Maps Go.WideMaps Go.WideElems Go.ChangeMaps

abbrev i64L (n : Int) : DataW Unit := .lit (.int .i64 n)
theorem setBlock_twice (w : World) (b : Nat) (o o' : Obj) : setBlock (setBlock w b o) b o' = setBlock w b o' := by
  unfold setBlock
  simp
theorem mod_same {es : Array MapEntry} {j : Nat} {e0 : MapEntry} {key : Value} (hj : es[j]? = some e0) (h3 : e0.key = key) : es.modify j (fun e' => { e' with key := key, val := e0.val }) = es := by
  have h2 : es.toList[j]? = some e0 := by simpa using hj
  apply Array.ext'
  rw [Array.toList_modify, modify_eq_set _ _ _ _ h2]
  have : ({ e0 with key := key, val := e0.val } : MapEntry) = e0 := by rw [← h3]
  rw [this]
  exact set_self _ _ _ h2

section
variable {P : Program} {t k e : TypeId} {w : World} {b n : Nat} {D : DataW Unit}
/-- 'm[k] += x' as the model takes it apart: the look-up (ahead of the entry or behind it), the entry, the store. -/
theorem entry_own (K : KeyLaw P k) (ht : P.underlying t = some (.map k e)) (he : P.underlying e = some (.int .i64)) (hz : ∀ u : World, (zeroValue e).run P u = .ok (.int .i64 0) u)
    (hown : w.ownsMap P k (plainElem (H := Unit) P e) b n D) (hn : n < maxLen) (hD : IsMap D) {key : Value} {kl : Lit} (hkey : keyOf P k key = some kl) :
    ∃ (c : Int) (st : Nat) (w1 : World), (Instr.lookup t (.map (some b)) key false).run P w = .ok (.int .i64 c) w ∧ D.atKey kl (i64L 0) = i64L c ∧ (Lit.int .i64 c).wf = true ∧
      (Instr.mapEntry t (.map (some b)) key).run P w = .ok (.tuple #[.int .i64 c, .int .i64 st]) w1 ∧ (Instr.lookup t (.map (some b)) key false).run P w1 = .ok (.int .i64 c) w1 ∧ w.grownBy w1 (some b) ∧
      ∀ x : Int, (Lit.int .i64 x).wf = true → ∃ w2, (Instr.entryStore t (.map (some b)) (.int .i64 st) (.int .i64 x)).run P w1 = .ok () w2 ∧ w2.ownsMap P k (plainElem (H := Unit) P e) b (n + 1) (D.put kl (i64L x)) ∧ w.grownBy w2 (some b) := by
  have KK := Keyed.of_law K
  obtain ⟨c, hlk, hat, hwc⟩ := hown.lookup_int KK ht he (hz w) hkey
  have hown' := hown
  obtain ⟨es, clock, hb, F, hs, hDD⟩ := hown
  obtain ⟨v0, st, es1, clock1, hme, _, hst⟩ := entry_then_store K ht hz hb F hkey
  -- the entry's value is the look-up's, and the entry alone is the update by it
  have hv : v0 = .int .i64 c ∧ (Instr.mapUpdate t (.map (some b)) key v0).run P w = .ok () (setBlock w b (.map es1 clock1)) := by
    rcases K.find w hkey es.toList F.keys with ⟨h1, h2⟩ | ⟨j, e0, h1, h2, h3⟩
    · have hme' : (Instr.mapEntry t (.map (some b)) key).run P w = .ok (.tuple #[.int .i64 0, goInt clock]) (setBlock w b (.map (es.push ⟨key, .int .i64 0, clock⟩) (clock + 1))) := by
        simp [Instr.mapEntry, run_underlying ht, MapKept.run_getObj_map hb, K.check w false hkey, h1, hz, MapKept.run_setObj_map _ hb, Result.andThen, setBlock]
      have hlk' : (Instr.lookup t (.map (some b)) key false).run P w = .ok (.int .i64 0) w := by
        simp [Instr.lookup, run_underlying ht, MapKept.run_getObj_map hb, K.check, hkey, h1, hz, Result.andThen]
      have hup : (Instr.mapUpdate t (.map (some b)) key (.int .i64 0)).run P w = .ok () (setBlock w b (.map (es.push ⟨key, .int .i64 0, clock⟩) (clock + 1))) := by
        simp [Instr.mapUpdate, run_underlying ht, MapKept.run_getObj_map hb, K.check w false hkey, h1, MapKept.run_setObj_map _ hb, Result.andThen, setBlock]
      rw [hlk'] at hlk
      injection hlk with hlk
      rw [hme'] at hme
      injection hme with h4 h5
      injection h4 with h4
      have h6 : (#[Value.int .i64 0, goInt clock] : Array Value)[0]? = (#[v0, goInt st] : Array Value)[0]? := by rw [h4]
      simp at h6
      rw [← h6, ← h5]
      exact ⟨hlk, hup⟩
    · have hj : es[j]? = some e0 := by simpa using h2
      have hsame : es.modify j (fun e => { e with key := key }) = es := by
        apply Array.ext'
        rw [Array.toList_modify, modify_eq_set _ _ _ _ h2]
        have : ({ e0 with key := key } : MapEntry) = e0 := by rw [← h3]
        rw [this]
        exact set_self _ _ _ h2
      have hme' : (Instr.mapEntry t (.map (some b)) key).run P w = .ok (.tuple #[e0.val, goInt e0.born]) (setBlock w b (.map es clock)) := by
        simp [Instr.mapEntry, run_underlying ht, MapKept.run_getObj_map hb, K.check w false hkey, h1, hj, h3, K.stays w hkey, hsame, MapKept.run_setObj_map _ hb, Result.andThen, setBlock]
      have hlk' : (Instr.lookup t (.map (some b)) key false).run P w = .ok e0.val w := by
        simp [Instr.lookup, run_underlying ht, MapKept.run_getObj_map hb, K.check, hkey, h1, Result.andThen]
      have hup : (Instr.mapUpdate t (.map (some b)) key e0.val).run P w = .ok () (setBlock w b (.map es clock)) := by
        simp [Instr.mapUpdate, run_underlying ht, MapKept.run_getObj_map hb, K.check w false hkey, h1, hj, h3, K.stays w hkey, MapKept.run_setObj_map _ hb, Result.andThen, setBlock]
        rw [mod_same hj h3]
      rw [hlk'] at hlk
      injection hlk with hlk
      rw [hme'] at hme
      injection hme with h4 h5
      injection h4 with h4
      have h6 : (#[e0.val, goInt e0.born] : Array Value)[0]? = (#[v0, goInt st] : Array Value)[0]? := by rw [h4]
      simp at h6
      rw [← h6, ← h5]
      exact ⟨hlk, hup⟩
  obtain ⟨rfl, hup⟩ := hv
  obtain ⟨w1', hrun1, hown1, hg1⟩ := hown'.update KK ht hn hkey (plainElem_int he hwc)
  rw [hup] at hrun1
  injection hrun1 with _ hrun1
  subst hrun1
  obtain ⟨c1, hlk1, hat1, _⟩ := hown1.lookup_int KK ht he (hz _) hkey
  rw [atKey_put_same hD (KK.key hkey)] at hat1
  injection hat1 with hat1
  injection hat1 with _ hat1
  subst hat1
  refine ⟨c, st, _, hlk, hat, hwc, hme, hlk1, hg1, fun x hx => ?_⟩
  obtain ⟨es', clock', hes, hup2⟩ := hst (setBlock w b (.map es1 clock1)) (.int .i64 x) (heap_setBlock_same hb _)
  rw [setBlock_twice] at hes
  obtain ⟨w2', hrun2, hown2, hg2⟩ := hown'.update KK ht hn hkey (plainElem_int he hx)
  rw [hup2] at hrun2
  injection hrun2 with _ hrun2
  subst hrun2
  exact ⟨_, hes, hown2, hg2⟩
end

/-- The map as read has, among the good keys, the keys K and at each the number T. -/
structure MapG {κ : Type} (L : κ → Lit) (G : κ → Prop) (D : DataW Unit) (K : κ → Bool) (T : κ → Int) : Prop where
  isMap : IsMap D
  has : ∀ c, G c → Maps.has D (L c) = K c
  at_ : ∀ c, G c → D.atKey (L c) (i64L 0) = i64L (T c)
/-- What is asked of the keys' literals. -/
structure KeyG {κ : Type} (L : κ → Lit) (G : κ → Prop) : Prop where
  lit : ∀ c, G c → WideAt.IsKeyLit (L c)
  inj : ∀ c d, G c → G d → L c = L d → c = d

section
variable {κ : Type} [DecidableEq κ] {L : κ → Lit} {G : κ → Prop} {D : DataW Unit} {K K' : κ → Bool} {T T' : κ → Int}
end
section
variable {κ : Type} {L : κ → Lit} {G : κ → Prop} {D : DataW Unit} {K K' : κ → Bool} {T T' : κ → Int} {α : Type} {R : Rec α κ} {p : Int → Bool}
theorem MapG.empty : MapG L G (.map []) (fun _ => false) (fun _ => 0) := ⟨isMap_empty, fun _ _ => rfl, fun _ _ => rfl⟩
end
section
variable {κ : Type} [DecidableEq κ] {L : κ → Lit} {G : κ → Prop} {D : DataW Unit} {K K' : κ → Bool} {T T' : κ → Int} {α : Type} {R : Rec α κ} {p : Int → Bool}
theorem MapG.put_ (hL : KeyG L G) (h : MapG L G D K T) (s : κ) (hs : G s) (n : Int) (hK : ∀ c, K' c = (K c || decide (s = c))) (hT : ∀ c, T' c = if s = c then n else T c) : MapG L G (D.put (L s) (i64L n)) K' T' := by
  refine ⟨h.isMap.put _ _, fun c hc => ?_, fun c hc => ?_⟩
  · by_cases e : s = c
    · subst e
      rw [has_put_same h.isMap (hL.lit s hs), hK]; simp
    · rw [has_put_other (fun e' => e (hL.inj _ _ hs hc e'.symm)), h.has c hc, hK]; simp [e]
  · by_cases e : s = c
    · subst e
      rw [atKey_put_same h.isMap (hL.lit s hs), hT]; simp
    · rw [atKey_put_other (fun e' => e (hL.inj _ _ hs hc e'.symm)), h.at_ c hc, hT]; simp [e]

/-- What has been collected when 'left' is still to come. -/
structure ColG {α : Type} (R : Rec α κ) (L : κ → Lit) (G : κ → Prop) (p : Int → Bool) (K : κ → Bool) (T : κ → Int) (left : Lit → Bool) (ys : List α) : Prop where
  sound : ∀ x ∈ ys, G (R.key x) ∧ K (R.key x) = true ∧ R.amt x = T (R.key x) ∧ R.amt x ≠ 0 ∧ left (L (R.key x)) = false
  full : ∀ c, G c → K c = true → left (L c) = false → p (T c) = true ∧ (T c ≠ 0 → ∃ x ∈ ys, R.key x = c)
  nodup : ys.Pairwise (fun a b => R.key a ≠ R.key b)
variable {α : Type} {R : Rec α κ} {p : Int → Bool}
end
section
variable {κ : Type} {L : κ → Lit} {G : κ → Prop} {D : DataW Unit} {K K' : κ → Bool} {T T' : κ → Int} {α : Type} {R : Rec α κ} {p : Int → Bool}
theorem ColG.start (h : MapG L G D K T) : ColG R L G p K T (Maps.has D) [] :=
  ⟨by simp, (fun c hg hc hl => by rw [h.has c hg, hc] at hl; cases hl), List.Pairwise.nil⟩
end
section
variable {κ : Type} [DecidableEq κ] {L : κ → Lit} {G : κ → Prop} {D : DataW Unit} {K K' : κ → Bool} {T T' : κ → Int} {α : Type} {R : Rec α κ} {p : Int → Bool}
theorem ColG.step (hL : KeyG L G) {left : Lit → Bool} {ys : List α} (h : ColG R L G p K T left ys) {s : κ} {c : Int} (hs : G s) (hl : left (L s) = true) (hK : K s = true) (hT : T s = c) (ha : p c = true) :
    (∀ x, R.key x = s → R.amt x = c → c ≠ 0 → ColG R L G p K T (fun z => left z && !z.sameKey (L s)) (ys ++ [x])) ∧ (c = 0 → ColG R L G p K T (fun z => left z && !z.sameKey (L s)) ys) := by
  have hself : (L s).sameKey (L s) = true := WideAt.sameKey_self (hL.lit s hs)
  have hsound : ∀ x ∈ ys, G (R.key x) ∧ K (R.key x) = true ∧ R.amt x = T (R.key x) ∧ R.amt x ≠ 0 ∧ (left (L (R.key x)) && !(L (R.key x)).sameKey (L s)) = false := by
    intro x hx
    obtain ⟨h0, h1, h2, h3, h4⟩ := h.sound x hx
    exact ⟨h0, h1, h2, h3, by simp [h4]⟩
  have hfull : ∀ d, G d → K d = true → (left (L d) && !(L d).sameKey (L s)) = false → (p (T d) = true ∧ (T d ≠ 0 → d ≠ s → ∃ x ∈ ys, R.key x = d)) := by
    intro d hg hd hld
    by_cases e : d = s
    · subst e
      exact ⟨by rw [hT]; exact ha, fun _ h => absurd rfl h⟩
    · have hne : (L d).sameKey (L s) = false := sameKey_ne (fun e' => e (hL.inj _ _ hg hs e'))
      rw [hne] at hld
      simp at hld
      obtain ⟨g1, g2⟩ := h.full d hg hd hld
      exact ⟨g1, fun h0 _ => g2 h0⟩
  refine ⟨fun y hy1 hy2 hc => ⟨fun x hx => ?_, fun d hg hd hld => ?_, ?_⟩, fun hc => ⟨hsound, fun d hg hd hld => ?_, h.nodup⟩⟩
  · rcases List.mem_append.1 hx with h1 | h1
    · exact hsound x h1
    · simp at h1
      subst h1
      rw [hy1, hy2]
      exact ⟨hs, hK, hT.symm, hc, by rw [hself]; simp⟩
  · obtain ⟨g1, g2⟩ := hfull d hg hd hld
    refine ⟨g1, fun h0 => ?_⟩
    by_cases e : d = s
    · exact ⟨y, by simp, by rw [hy1, e]⟩
    · obtain ⟨x, hx, hxe⟩ := g2 h0 e
      exact ⟨x, by simp [hx], hxe⟩
  · rw [List.pairwise_append]
    refine ⟨h.nodup, List.pairwise_singleton _ _, fun a ha' b hb => ?_⟩
    simp at hb
    subst hb
    intro e
    have := (h.sound a ha').2.2.2.2
    rw [e, hy1, hl] at this
    cases this
  · obtain ⟨g1, g2⟩ := hfull d hg hd hld
    refine ⟨g1, fun h0 => ?_⟩
    by_cases e : d = s
    · subst e; rw [hT] at h0; exact absurd hc h0
    · exact g2 h0 e
end
section
variable {κ : Type} {L : κ → Lit} {G : κ → Prop} {D : DataW Unit} {K K' : κ → Bool} {T T' : κ → Int} {α : Type} {R : Rec α κ} {p : Int → Bool}
/-- What is collected, sorted: the records with the sums that are not 0. -/
theorem ColG.done (hLaw : R.Law) {left : Lit → Bool} {ys zs : List α} (h : ColG R L G p K T left ys) (hl : ∀ z, left z = false) (hKG : ∀ c, K c = true → G c) (hp : zs.Perm ys) (hsd : zs.Pairwise (fun a b => R.lt (R.key b) (R.key a) = false)) :
    (∀ c, K c = true → p (T c) = true) ∧ R.Sorted zs ∧ ∀ x : α, x ∈ zs ↔ (K (R.key x) = true ∧ R.amt x = T (R.key x) ∧ R.amt x ≠ 0) := by
  refine ⟨fun c hc => (h.full c (hKG c hc) hc (hl _)).1, ?_, fun x => ?_⟩
  · have h2 : zs.Pairwise (fun a b => R.key a ≠ R.key b) := h.nodup.perm hp.symm (fun h e => h e.symm)
    refine (hsd.and h2).imp ?_
    rintro a b ⟨h3, h4⟩
    cases hh : R.lt (R.key a) (R.key b)
    · exact absurd (hLaw.total _ _ hh h3) h4
    · rfl
  · rw [hp.mem_iff]
    refine ⟨fun hx => ?_, fun ⟨h1, h2, h3⟩ => ?_⟩
    · obtain ⟨_, g1, g2, g3, _⟩ := h.sound x hx
      exact ⟨g1, g2, g3⟩
    · obtain ⟨y, hy, hye⟩ := (h.full _ (hKG _ h1) h1 (hl _)).2 (by rw [← h2]; exact h3)
      obtain ⟨_, _, g2, _⟩ := h.sound y hy
      have : y = x := hLaw.ext _ _ hye (by rw [g2, hye, h2])
      rw [← this]; exact hy
end

theorem length_insert1 (x : Lit × DataW Unit) : ∀ l, (DataW.insert x l).length = l.length + 1
  | [] => rfl
  | y :: l => by
    rw [DataW.insert]
    split
    · rfl
    · simp [length_insert1 x l]
theorem length_insertAll (l : List (Lit × DataW Unit)) : (l.foldr DataW.insert []).length = l.length := by
  induction l with
  | nil => rfl
  | cons a l ih => rw [List.foldr_cons, length_insert1, ih]; rfl
theorem wf64 {n : Int} (h1 : -9223372036854775808 ≤ n) (h2 : n ≤ 9223372036854775807) : (Lit.int .i64 n).wf = true := by
  simp [Lit.wf, IntKind.min, IntKind.max, IntKind.signed, IntKind.bits]; omega
theorem wf64_bd {n : Int} (h : (Lit.int .i64 n).wf = true) : -9223372036854775808 ≤ n ∧ n ≤ 9223372036854775807 := by
  simp [Lit.wf, IntKind.min, IntKind.max, IntKind.signed, IntKind.bits] at h; omega

end Go.Proofs.Ytbiajkknpkeeoaa
