/- Contracts of the generators of package paygen that draw rates, bases and lines. Conditions: at most some hundred thousand numbers have been drawn. -/
import Derived.Test.YtbiajkknpkeeoaaLine2
namespace Go.Proofs.Ytbiajkknpkeeoaa
open Go.RowKit

theorem infoI : (Try.prog.info? 3).map (fun i => (i.zero, i.size, i.bytes)) = some (some (.int .i64 0), 1, 8) := by kernel_rfl
theorem encI_one (x : Int) : ∀ u ∈ encI x, u.oneCell' = true := by intro u hu; simp [encI] at hu; subst hu; rfl
/-- The numbers of a literal list, as a slice in the world that follows. -/
theorem lit_ints (w : World) (l : List Int) (cs : Array Value) (h : cs = (l.flatMap encI).toArray) : SliceOf encI 1 (w.alloc (.cells cs 3)) (w.alloc (.cells cs 3)).heap.size (some ⟨w.heap.size, 0, none⟩) l :=
  (SliceOf.new encI_len w l cs 3 h).more (by simp)


/-- What a drawn line is like. -/
structure LineOk (x : LineT) : Prop where
  form : formB x = true
  lo : -600000 ≤ x.amount
  hi : x.amount ≤ 600000
  nz : x.amount ≠ 0
  code : x.code.size ≤ 24
  mem : bareB x.kind = false → x.code ∈ code8
theorem names8 : ∀ c ∈ code8, nameB c = true := by decide +kernel
theorem lineOk_bare {k a : Int} (h1 : 1 ≤ k) (h2 : k ≤ 10) (hb : bareB k = true) (h3 : -600000 ≤ a) (h4 : a ≤ 600000) (h5 : a ≠ 0) : LineOk ⟨k, ⟨#[]⟩, a⟩ := by
  refine ⟨?_, h3, h4, h5, Nat.zero_le _, fun h => by rw [hb] at h; cases h⟩
  have hm : maxN a = true := by simp [maxN]; omega
  simp only [formB, codeB, hb, hm, h1, h2, decide_true, Bool.true_and, if_true]
  rfl
theorem lineOk_name {k a : Int} {s : ByteArray} (h1 : 1 ≤ k) (h2 : k ≤ 10) (hb : bareB k = false) (hs : s ∈ code8) (h3 : -600000 ≤ a) (h4 : a ≤ 600000) (h5 : a ≠ 0) : LineOk ⟨k, s, a⟩ := by
  refine ⟨?_, h3, h4, h5, code8_size _ hs, fun _ => hs⟩
  have hm : maxN a = true := by simp [maxN]; omega
  simp [formB, codeB, hb, hm, h1, h2, names8 _ hs]

theorem sets3 {cs : Array Value} (hs : cs.size = 3) (a0 a1 a2 : Value) : (((cs.setIfInBounds 0 a0).setIfInBounds 1 a1).setIfInBounds 2 a2) = #[a0, a1, a2] := by
  obtain ⟨l⟩ := cs
  match l, hs with
  | [_, _, _], _ => rfl
theorem Blk.put3 {w : World} {g : Nat} {t : TypeId} {cs : Array Value} (h : Blk w g t cs) (hs : cs.size = 3) (a0 a1 a2 : Value) :
    Blk (((w.setCell ⟨g, 0, none⟩ a0).setCell ⟨g, 1, none⟩ a1).setCell ⟨g, 2, none⟩ a2) g t #[a0, a1, a2] := by
  rw [← sets3 hs a0 a1 a2]
  exact ((h.set_ 0 a0).set_ 1 a1).set_ 2 a2
theorem DeckIn.set {w : World} {b M : Nat} (h : DeckIn w b M) {g : Nat} (hg : b < g) (i : Nat) (u : Value) : DeckIn (w.setCell ⟨g, i, none⟩ u) b M :=
  h.grown (only_setCell (g := g) (p := ⟨g, i, none⟩) (only_refl _ _) (.inl rfl) u) (fun q e => by
    have e' : g = q := by injection e
    omega)
set_option maxHeartbeats 4000000 in
theorem line_any (b M : Nat) (w : World) (hM : M ≤ 800000) (hd : DeckIn w b M) :
    Calls Try.prog 32 #[.pointer (some ⟨b, 0, none⟩)] w fun e w' => ∃ x : LineT, e = .returned (.agg #[.int .i64 x.kind, .string x.code, .int .i64 x.amount]) ∧ LineOk x ∧ DeckIn w' b (M + 5) ∧ w.grownBy w' (some b) := by
  have hlt := hd.lt
  go_enter Try.func32, Try.ntmps32
  go_wp2_with fail
  refine (next_any b M _ _ (by omega) (by omega) (by omega) (hd.alloc _)).mono ?_
  rintro e w1 ⟨r1, rfl, ha1, hb1, hd1, hg1⟩
  go_wp2_with fail
  refine (small_any b (M + 1) _ (by omega) hd1).mono ?_
  rintro e w2 ⟨r2, rfl, ha2, hb2, hd2, hg2⟩
  have hR := ((Blk.new w 26 #[.int .i64 0, .string ⟨#[]⟩, .int .i64 0]).grown hg1 (by intro e; injection e; omega)).grown hg2 (by intro e; injection e; omega)
  have hG2 : w.grownBy w2 (some b) := only_trans (only_trans (only_alloc (only_refl _ _) _) hg1) hg2
  have hlt2 := hd2.lt
  have hlr := hR.lt
  clear hg1 hg2 hd1 hd
  have hX0 := Blk.new w2 26 #[.int .i64 (1 + r1), .string ⟨#[]⟩, .int .i64 (1 + r2)]
  have hR0 := hR.alloc (Obj.cells #[.int .i64 (1 + r1), .string ⟨#[]⟩, .int .i64 (1 + r2)] 26)
  have hd20 := hd2.alloc (Obj.cells #[.int .i64 (1 + r1), .string ⟨#[]⟩, .int .i64 (1 + r2)] 26)
  have hG20 := only_alloc hG2 (Obj.cells #[.int .i64 (1 + r1), .string ⟨#[]⟩, .int .i64 (1 + r2)] 26)
  go_upto_region 2 with fail
  generalize hW : w2.alloc (Obj.cells #[.int .i64 (1 + r1), .string ⟨#[]⟩, .int .i64 (1 + r2)] 26) = W at *
  have hlW : w2.heap.size < W.heap.size := hX0.lt
  clear hW hd2 hG2 hR
  have x0 := hX0.cell 0
  have x1 := hX0.cell 1
  have x2 := hX0.cell 2
  simp only [List.getElem?_toArray, List.getElem?_cons_zero, List.getElem?_cons_succ] at x0 x1 x2
  have f1 := hX0.frozen 1
  rcases hb : bareB (1 + r1) with _ | _
  · go_wp2_with (go_at_call 48; refine (bare32_any _ _).mono ?_; rintro e w' ⟨rfl, rfl⟩)
    refine (code_any b (M + 1 + 2) _ (by omega) hd20).mono ?_
    rintro e w3 ⟨s3, rfl, hs3, hd3, hg3⟩
    have hX3 := hX0.grown hg3 (by intro e; injection e; omega)
    have hR3 := hR0.grown hg3 (by intro e; injection e; omega)
    have hG3 := only_trans hG20 hg3
    have hl3 := hX3.lt
    have e1 := hX3.cell 1
    have k1 := hX3.frozen 1
    simp only [List.getElem?_toArray, List.getElem?_cons_zero, List.getElem?_cons_succ] at e1
    have hX3' : Blk (w3.setCell ⟨w2.heap.size, 1, none⟩ (.string s3)) w2.heap.size 26 #[.int .i64 (1 + r1), .string s3, .int .i64 (1 + r2)] := by simpa using hX3.set_ 1 (.string s3)
    have hR3' := hR3.far (p := ⟨w2.heap.size, 1, none⟩) (by show w.heap.size ≠ w2.heap.size; omega) (.string s3)
    have hd3' := DeckIn.set hd3 (g := w2.heap.size) (by omega) 1 (.string s3)
    have hG3' := only_setCell (p := ⟨w2.heap.size, 1, none⟩) hG3 (.inr (by show w.heap.size ≤ w2.heap.size; omega)) (.string s3)
    have HOK := Lib.hid (fun a => lineOk_name (k := 1 + r1) (a := a) (by omega) (by omega) hb hs3)
    clear x0 x1 x2 f1 hX0 hR0 hd20 hG20 hX3 hR3 hd3 hG3 hb hg3
    go_upto_region 4 with fail
    generalize hW3 : w3.setCell ⟨w2.heap.size, 1, none⟩ (.string s3) = W3 at *
    have hl3' := hX3'.lt
    clear hW3 e1 k1
    go_wp2_with fail
    refine (next_any b (M + 1 + 2 + 1) _ _ (by omega) (by omega) (by omega) hd3').mono ?_
    rintro e w4 ⟨r4, rfl, ha4, hb4, hd4, hg4⟩
    have hX4 := hX3'.grown hg4 (by intro e; injection e; omega)
    have hR4 := hR3'.grown hg4 (by intro e; injection e; omega)
    have hG4 := only_trans hG3' hg4
    have hl4 := hX4.lt
    have hlr4 := hR4.lt
    have y0 := hX4.cell 0
    have y1 := hX4.cell 1
    have y2 := hX4.cell 2
    simp only [List.getElem?_toArray, List.getElem?_cons_zero, List.getElem?_cons_succ] at y0 y1 y2
    have g2 := hX4.frozen 2
    have z0 := hR4.cell 0
    have z1 := hR4.cell 1
    have z2 := hR4.cell 2
    simp only [List.getElem?_toArray, List.getElem?_cons_zero, List.getElem?_cons_succ] at z0 z1 z2
    have f0 := hR4.frozen 0
    have f1 := hR4.frozen 1
    have f2 := hR4.frozen 2
    rcases h4 : (r4 == 0) with _ | _
    · have hfin := hR4.put3 rfl (.int .i64 (1 + r1)) (.string s3) (.int .i64 (1 + r2))
      have hd5 := (DeckIn.set hd4 (g := w.heap.size) (by omega) 0 (.int .i64 (1 + r1))).set (g := w.heap.size) (by omega) 1 (.string s3) |>.set (g := w.heap.size) (by omega) 2 (.int .i64 (1 + r2))
      have hG5 := only_setCell (p := ⟨w.heap.size, 2, none⟩) (only_setCell (p := ⟨w.heap.size, 1, none⟩) (only_setCell (p := ⟨w.heap.size, 0, none⟩) hG4 (.inr (Nat.le_refl _)) (.int .i64 (1 + r1))) (.inr (Nat.le_refl _)) (.string s3)) (.inr (Nat.le_refl _)) (.int .i64 (1 + r2))
      go_wp2
      generalize World.setCell _ ⟨w.heap.size, 2, none⟩ _ = WW at hfin hd5 hG5 ⊢
      have q0 := hfin.cell 0
      have q1 := hfin.cell 1
      have q2 := hfin.cell 2
      simp only [List.getElem?_toArray, List.getElem?_cons_zero, List.getElem?_cons_succ] at q0 q1 q2
      refine bodyPost_ret (v := .agg #[.int .i64 (1 + r1), .string s3, .int .i64 (1 + r2)]) ?_ rfl ⟨⟨1 + r1, s3, 1 + r2⟩, rfl, HOK.out _ (by omega) (by omega) (by omega), hd5.mono (by omega), hG5⟩
      simp [results, Try.results32, go_sem, q0, q1, q2]
    · have hX5 := hX4.set_ 2 (.int .i64 (-(1 + r2)))
      have hR5 := hR4.far (p := ⟨w2.heap.size, 2, none⟩) (by show w.heap.size ≠ w2.heap.size; omega) (.int .i64 (-(1 + r2)))
      have hfin := hR5.put3 rfl (.int .i64 (1 + r1)) (.string s3) (.int .i64 (-(1 + r2)))
      have hd5 := ((DeckIn.set hd4 (g := w2.heap.size) (by omega) 2 (.int .i64 (-(1 + r2)))).set (g := w.heap.size) (by omega) 0 (.int .i64 (1 + r1))).set (g := w.heap.size) (by omega) 1 (.string s3) |>.set (g := w.heap.size) (by omega) 2 (.int .i64 (-(1 + r2)))
      have hG5 := only_setCell (p := ⟨w.heap.size, 2, none⟩) (only_setCell (p := ⟨w.heap.size, 1, none⟩) (only_setCell (p := ⟨w.heap.size, 0, none⟩) (only_setCell (p := ⟨w2.heap.size, 2, none⟩) hG4 (.inr (by show w.heap.size ≤ w2.heap.size; omega)) (.int .i64 (-(1 + r2)))) (.inr (Nat.le_refl _)) (.int .i64 (1 + r1))) (.inr (Nat.le_refl _)) (.string s3)) (.inr (Nat.le_refl _)) (.int .i64 (-(1 + r2)))
      go_wp2
      generalize World.setCell _ ⟨w.heap.size, 2, none⟩ _ = WW at hfin hd5 hG5 ⊢
      have q0 := hfin.cell 0
      have q1 := hfin.cell 1
      have q2 := hfin.cell 2
      simp only [List.getElem?_toArray, List.getElem?_cons_zero, List.getElem?_cons_succ] at q0 q1 q2
      refine bodyPost_ret (v := .agg #[.int .i64 (1 + r1), .string s3, .int .i64 (-(1 + r2))]) ?_ rfl ⟨⟨1 + r1, s3, -(1 + r2)⟩, rfl, HOK.out _ (by omega) (by omega) (by omega), hd5.mono (by omega), hG5⟩
      simp [results, Try.results32, go_sem, q0, q1, q2]
  · have HOK := Lib.hid (fun a => lineOk_bare (k := 1 + r1) (a := a) (by omega) (by omega) hb)
    go_upto_region 4 with (go_at_call 48; refine (bare32_any _ _).mono ?_; rintro e w' ⟨rfl, rfl⟩)
    clear hb
    go_wp2_with fail
    refine (next_any b (M + 1 + 2) _ _ (by omega) (by omega) (by omega) hd20).mono ?_
    rintro e w4 ⟨r4, rfl, ha4, hb4, hd4, hg4⟩
    have hX4 := hX0.grown hg4 (by intro e; injection e; omega)
    have hR4 := hR0.grown hg4 (by intro e; injection e; omega)
    have hG4 := only_trans hG20 hg4
    have hl4 := hX4.lt
    have hlr4 := hR4.lt
    have y0 := hX4.cell 0
    have y1 := hX4.cell 1
    have y2 := hX4.cell 2
    simp only [List.getElem?_toArray, List.getElem?_cons_zero, List.getElem?_cons_succ] at y0 y1 y2
    have g2 := hX4.frozen 2
    have z0 := hR4.cell 0
    have z1 := hR4.cell 1
    have z2 := hR4.cell 2
    simp only [List.getElem?_toArray, List.getElem?_cons_zero, List.getElem?_cons_succ] at z0 z1 z2
    have f0 := hR4.frozen 0
    have f1 := hR4.frozen 1
    have f2 := hR4.frozen 2
    rcases h4 : (r4 == 0) with _ | _
    · have hfin := hR4.put3 rfl (.int .i64 (1 + r1)) (.string ⟨#[]⟩) (.int .i64 (1 + r2))
      have hd5 := (DeckIn.set hd4 (g := w.heap.size) (by omega) 0 (.int .i64 (1 + r1))).set (g := w.heap.size) (by omega) 1 (.string ⟨#[]⟩) |>.set (g := w.heap.size) (by omega) 2 (.int .i64 (1 + r2))
      have hG5 := only_setCell (p := ⟨w.heap.size, 2, none⟩) (only_setCell (p := ⟨w.heap.size, 1, none⟩) (only_setCell (p := ⟨w.heap.size, 0, none⟩) hG4 (.inr (Nat.le_refl _)) (.int .i64 (1 + r1))) (.inr (Nat.le_refl _)) (.string ⟨#[]⟩)) (.inr (Nat.le_refl _)) (.int .i64 (1 + r2))
      go_wp2
      generalize World.setCell _ ⟨w.heap.size, 2, none⟩ _ = WW at hfin hd5 hG5 ⊢
      have q0 := hfin.cell 0
      have q1 := hfin.cell 1
      have q2 := hfin.cell 2
      simp only [List.getElem?_toArray, List.getElem?_cons_zero, List.getElem?_cons_succ] at q0 q1 q2
      refine bodyPost_ret (v := .agg #[.int .i64 (1 + r1), .string ⟨#[]⟩, .int .i64 (1 + r2)]) ?_ rfl ⟨⟨1 + r1, ⟨#[]⟩, 1 + r2⟩, rfl, HOK.out _ (by omega) (by omega) (by omega), hd5.mono (by omega), hG5⟩
      simp [results, Try.results32, go_sem, q0, q1, q2]
    · have hX5 := hX4.set_ 2 (.int .i64 (-(1 + r2)))
      have hR5 := hR4.far (p := ⟨w2.heap.size, 2, none⟩) (by show w.heap.size ≠ w2.heap.size; omega) (.int .i64 (-(1 + r2)))
      have hfin := hR5.put3 rfl (.int .i64 (1 + r1)) (.string ⟨#[]⟩) (.int .i64 (-(1 + r2)))
      have hd5 := ((DeckIn.set hd4 (g := w2.heap.size) (by omega) 2 (.int .i64 (-(1 + r2)))).set (g := w.heap.size) (by omega) 0 (.int .i64 (1 + r1))).set (g := w.heap.size) (by omega) 1 (.string ⟨#[]⟩) |>.set (g := w.heap.size) (by omega) 2 (.int .i64 (-(1 + r2)))
      have hG5 := only_setCell (p := ⟨w.heap.size, 2, none⟩) (only_setCell (p := ⟨w.heap.size, 1, none⟩) (only_setCell (p := ⟨w.heap.size, 0, none⟩) (only_setCell (p := ⟨w2.heap.size, 2, none⟩) hG4 (.inr (by show w.heap.size ≤ w2.heap.size; omega)) (.int .i64 (-(1 + r2)))) (.inr (Nat.le_refl _)) (.int .i64 (1 + r1))) (.inr (Nat.le_refl _)) (.string ⟨#[]⟩)) (.inr (Nat.le_refl _)) (.int .i64 (-(1 + r2)))
      go_wp2
      generalize World.setCell _ ⟨w.heap.size, 2, none⟩ _ = WW at hfin hd5 hG5 ⊢
      have q0 := hfin.cell 0
      have q1 := hfin.cell 1
      have q2 := hfin.cell 2
      simp only [List.getElem?_toArray, List.getElem?_cons_zero, List.getElem?_cons_succ] at q0 q1 q2
      refine bodyPost_ret (v := .agg #[.int .i64 (1 + r1), .string ⟨#[]⟩, .int .i64 (-(1 + r2))]) ?_ rfl ⟨⟨1 + r1, ⟨#[]⟩, -(1 + r2)⟩, rfl, HOK.out _ (by omega) (by omega) (by omega), hd5.mono (by omega), hG5⟩
      simp [results, Try.results32, go_sem, q0, q1, q2]

end Go.Proofs.Ytbiajkknpkeeoaa
