/- Contract of wage.Of: it hands back what 'ofV' says. Conditions: the slices' lengths fit an int, strings' lengths fit the model. -/
import Derived.Test.YtlfefcfddpmccaaMerge
namespace Go.Proofs.Ytlfefcfddpmccaa
open Go.RowKit

theorem preErr_zero2 {l : List Elem} (h : preErr l = 0) : Bdd 1000000000 l ∧ l.length ≤ 128 := by
  have h1 : ¬ 128 < l.length := by
    intro h1; rw [preErr, if_pos h1] at h; cases h
  rw [preErr, if_neg h1] at h
  split at h
  · cases h
  · split at h
    · cases h
    · rename_i h4
      refine ⟨fun x hx => ?_, by omega⟩
      simp only [Bool.not_eq_true, List.any_eq_false] at h4
      have := h4 x hx
      simpa [amtB] using this

/-- What holds between the fields that one round adds to. -/
structure OfCutP (w w2 w4 w3 : World) (x : Elem) (y : WageT) (b : BasesT) (wx : World) : Prop where
  bs : Bs wx w2.heap.size b
  rs : Bs wx w.heap.size zeroB
  bel : Below w2.heap.size w2 wx
  wg : Blk wx w4.heap.size 31 (encW y).toArray
  xb : Blk wx w3.heap.size 44 #[.string x.code, .int .i64 x.amount]
  lt1 : w.heap.size < w2.heap.size
  lt2 : w2.heap.size < w4.heap.size
  lt3 : w2.heap.size < w3.heap.size
section
variable {w w2 w4 w3 wx : World} {x : Elem} {y : WageT} {b : BasesT}
theorem OfCutP.step (h : OfCutP w w2 w4 w3 x y b wx) {b' : BasesT} {i : Nat} {u : Value} (hb : Bs (wx.setCell ⟨w2.heap.size, i, none⟩ u) w2.heap.size b') : OfCutP w w2 w4 w3 x y b' (wx.setCell ⟨w2.heap.size, i, none⟩ u) :=
  ⟨hb, h.rs.far (by have := h.lt1; simp; omega) _, h.bel.setCell (by simp) _, h.wg.far (by have := h.lt2; simp; omega) _, h.xb.far (by have := h.lt3; simp; omega) _, h.lt1, h.lt2, h.lt3⟩
theorem OfCutP.set_c (h : OfCutP w w2 w4 w3 x y b wx) (n : Int) : OfCutP w w2 w4 w3 x y { b with c := n } (wx.setCell ⟨w2.heap.size, 1, none⟩ (.int .i64 n)) := h.step (h.bs.c n)
theorem OfCutP.set_t (h : OfCutP w w2 w4 w3 x y b wx) (n : Int) : OfCutP w w2 w4 w3 x y { b with t := n } (wx.setCell ⟨w2.heap.size, 2, none⟩ (.int .i64 n)) := h.step (h.bs.t n)
theorem OfCutP.set_i (h : OfCutP w w2 w4 w3 x y b wx) (n : Int) : OfCutP w w2 w4 w3 x y { b with i := n } (wx.setCell ⟨w2.heap.size, 3, none⟩ (.int .i64 n)) := h.step (h.bs.i n)
theorem OfCutP.set_a (h : OfCutP w w2 w4 w3 x y b wx) (n : Int) : OfCutP w w2 w4 w3 x y { b with a := n } (wx.setCell ⟨w2.heap.size, 4, none⟩ (.int .i64 n)) := h.step (h.bs.a n)
end

def nthB (b : BasesT) : Nat → Int
  | 0 => b.g
  | 1 => b.c
  | 2 => b.t
  | 3 => b.i
  | _ => b.a
theorem idx5_0 (b : BasesT) (w : World) : (Instr.index 67 (.agg #[.int .i64 b.g, .int .i64 b.c, .int .i64 b.t, .int .i64 b.i, .int .i64 b.a]) (.int .i64 0)).run Try.prog w = .ok (.int .i64 b.g) w := by kernel_rfl
theorem idx5_1 (b : BasesT) (w : World) : (Instr.index 67 (.agg #[.int .i64 b.g, .int .i64 b.c, .int .i64 b.t, .int .i64 b.i, .int .i64 b.a]) (.int .i64 1)).run Try.prog w = .ok (.int .i64 b.c) w := by kernel_rfl
theorem idx5_2 (b : BasesT) (w : World) : (Instr.index 67 (.agg #[.int .i64 b.g, .int .i64 b.c, .int .i64 b.t, .int .i64 b.i, .int .i64 b.a]) (.int .i64 2)).run Try.prog w = .ok (.int .i64 b.t) w := by kernel_rfl
theorem idx5_3 (b : BasesT) (w : World) : (Instr.index 67 (.agg #[.int .i64 b.g, .int .i64 b.c, .int .i64 b.t, .int .i64 b.i, .int .i64 b.a]) (.int .i64 3)).run Try.prog w = .ok (.int .i64 b.i) w := by kernel_rfl
theorem idx5_4 (b : BasesT) (w : World) : (Instr.index 67 (.agg #[.int .i64 b.g, .int .i64 b.c, .int .i64 b.t, .int .i64 b.i, .int .i64 b.a]) (.int .i64 4)).run Try.prog w = .ok (.int .i64 b.a) w := by kernel_rfl
theorem idx5 (b : BasesT) (k : Nat) (hk : k < 5) (w : World) : (Instr.index 67 (.agg #[.int .i64 b.g, .int .i64 b.c, .int .i64 b.t, .int .i64 b.i, .int .i64 b.a]) (.int .i64 (k : Int))).run Try.prog w = .ok (.int .i64 (nthB b k)) w := by
  have h : k = 0 ∨ k = 1 ∨ k = 2 ∨ k = 3 ∨ k = 4 := by omega
  rcases h with rfl | rfl | rfl | rfl | rfl
  · exact idx5_0 b w
  · exact idx5_1 b w
  · exact idx5_2 b w
  · exact idx5_3 b w
  · exact idx5_4 b w
theorem amts_no {b : BasesT} {m : Nat} (hm : m < 5) (h : amtB (nthB b m) = false) : amtsB b = false := by
  match m, hm with
  | 0, _ => simp only [nthB] at h; simp [amtsB, h]
  | 1, _ => simp only [nthB] at h; simp [amtsB, h]
  | 2, _ => simp only [nthB] at h; simp [amtsB, h]
  | 3, _ => simp only [nthB] at h; simp [amtsB, h]
  | 4, _ => simp only [nthB] at h; simp [amtsB, h]
theorem amts_yes {b : BasesT} (h : ∀ j, j < 5 → amtB (nthB b j) = true) : amtsB b = true := by
  have h0 := h 0 (by omega)
  have h1 := h 1 (by omega)
  have h2 := h 2 (by omega)
  have h3 := h 3 (by omega)
  have h4 := h 4 (by omega)
  simp only [nthB] at h0 h1 h2 h3 h4
  simp [amtsB, h0, h1, h2, h3, h4]

set_option maxRecDepth 100000 in
set_option maxHeartbeats 8000000 in
theorem of_any (A E : Option Addr) (cap ecap : Nat) (ws : List WageT) (xs : List Elem) (w : World) (h : SliceOf encW 6 w w.heap.size A ws) (hzw : ∀ x ∈ ws, x.code.size ≤ maxLen) (hlw : ws.length ≤ 9223372036854775806)
    (hE : SliceOf encE 2 w w.heap.size E xs) (hz : ∀ x ∈ xs, x.code.size ≤ maxLen) (hl : xs.length ≤ 9223372036854775806) :
    Calls Try.prog 28 #[.slice A ws.length cap, .slice E xs.length ecap] w fun r w' => r = .returned (ofV ws xs xs) ∧ Below w.heap.size w w' := by
  have HZ := Lib.hid hz; clear hz
  have HZW := Lib.hid hzw; clear hzw
  go_enter Try.func28, Try.ntmps28
  go_wp2_with fail
  have hB0 : Bs (w.alloc (.cells #[.int .i64 0, .int .i64 0, .int .i64 0, .int .i64 0, .int .i64 0] 52)) w.heap.size zeroB := Blk.new _ _ _
  have hb0 : Below w.heap.size w (w.alloc (.cells #[.int .i64 0, .int .i64 0, .int .i64 0, .int .i64 0, .int .i64 0] 52)) := (Below.refl _ _).alloc (Nat.le_refl _) _
  generalize w.alloc (.cells #[.int .i64 0, .int .i64 0, .int .i64 0, .int .i64 0, .int .i64 0] 52) = w0 at hB0 hb0 ⊢
  have hs0 : w.heap.size < w0.heap.size := Blk.lt hB0
  refine (valid_any A cap ws _ ((h.below hb0).more (by omega)) HZW.out (by omega)).mono ?_
  rintro e w1 ⟨rfl, hb1⟩
  have hB1 := hB0.below hb1 hs0
  have hbel1 := below_size hb0 hb1 (by omega)
  have hs1 := hb1.size
  by_cases hv : validB ws = true
  · have HV := Lib.hid hv
    go_wp2_with fail
    refine (merge_any E ecap xs _ ((hE.below hbel1).more (by omega)) HZ.out (by omega)).mono ?_
    rintro e w2 ⟨A6, c6, rfl, _, _, _, hb2⟩
    have hB2 := hB1.below hb2 (by omega)
    have hbel2 := below_size hbel1 hb2 (by omega)
    have hs2 := hb2.size
    by_cases h0 : preErr xs = 0
    · have H0 := Lib.hid h0
      rw [h0]
      obtain ⟨hSb, hSl⟩ := preErr_zero2 h0
      have hE2 := hE.below hbel2
      clear h0 hB0 hb0 hb1 hb2 hB1 hbel1
      go_wp2
      have hBb : Bs (w2.alloc (.cells #[.int .i64 0, .int .i64 0, .int .i64 0, .int .i64 0, .int .i64 0] 52)) w2.heap.size zeroB := Blk.new _ _ _
      have hBr := hB2.alloc (Obj.cells #[.int .i64 0, .int .i64 0, .int .i64 0, .int .i64 0, .int .i64 0] 52)
      have hBS := (Below.refl w2.heap.size w2).alloc (Nat.le_refl _) (Obj.cells #[.int .i64 0, .int .i64 0, .int .i64 0, .int .i64 0, .int .i64 0] 52)
      generalize w2.alloc (.cells #[.int .i64 0, .int .i64 0, .int .i64 0, .int .i64 0, .int .i64 0] 52) = w3 at hBb hBr hBS ⊢
      go_loopw [30] (fun i wr => ∃ k : Nat, k ≤ xs.length ∧ i = .int .i64 k ∧ Hid (∀ j, (hj : j < xs.length) → j < k → (findW ws xs[j].code).isSome = true) ∧ Bs wr w2.heap.size (sumB ws (xs.take k)) ∧ BddB (k * 1000000000) (sumB ws (xs.take k)) ∧ Bs wr w.heap.size zeroB ∧ Below w2.heap.size w2 wr) (fun i _ => xs.length - (intOf i).toNat)
      case atStart => exact ⟨0, by omega, rfl, fun j _ hj => absurd hj (by omega), hBb, by simp [sumB, zeroB, BddB], hBr, hBS⟩
      case round =>
        clear hBb hBr hBS
        obtain ⟨k, hk, rfl, hall, hBb, hbd, hBr, hbel⟩ := hrel
        have hbs := Blk.lt hBb
        by_cases hlt : k < xs.length
        · obtain ⟨b, off, rfl, hb, hc⟩ := (hE2.below (hbel.mono (by omega))).at_ hlt
          have c0 := hc 0 _ rfl
          have c1 := hc 1 _ rfl
          simp only [Nat.add_zero] at c0
          clear hc
          go_wp2_with fail
          have hXb := Blk.new wr 44 #[Value.string xs[k].code, Value.int IntKind.i64 xs[k].amount]
          refine (find_any A cap ws xs[k].code _ ((h.below ((hbel2.trans (hbel.mono (by omega))).alloc (by omega) _)).more (by simp; omega)) (by omega)).mono ?_
          rintro e w4 ⟨rfl, hb4⟩
          have hs4' : wr.heap.size + 1 ≤ w4.heap.size := by have := hb4.size; simpa using this
          have hX4 := hXb.below hb4 (by simp)
          have hBb4 := (hBb.alloc _).below hb4 (by simp; omega)
          have hBr4 := (hBr.alloc _).below hb4 (by simp; omega)
          have hbel4 := below_size (hbel.alloc (by omega) _) hb4 (by simp; omega)
          have hs4 : wr.heap.size < w4.heap.size := by omega
          have hw4 : w.heap.size < w4.heap.size := by omega
          have hw24 : w2.heap.size < w4.heap.size := by omega
          have hbw4 : b < w4.heap.size := by omega
          rcases hf : findW ws xs[k].code with _ | y
          · rw [foundV_none]
            obtain ⟨r0, r1, r2, r3, r4⟩ := hBr4.cells
            obtain ⟨q0, q1, q2, q3, q4⟩ := hBr4.frz
            have HE : Hid (ofErr ws xs xs = 16) := by
              have hm : missing ws xs = true := List.any_eq_true.2 ⟨xs[k], List.getElem_mem _, by simp [hf]⟩
              simp only [Hid, ofErr, HV.out, H0.out, hm, if_true, Bool.true_eq_false, if_false, ne_eq, not_true_eq_false]
            go_wp2
            have hfb := (hBr4.put zeroB).alloc (Obj.cells #[.string ⟨#[]⟩, .int .i64 0, .bool false, .bool false, .bool false, .int .i64 0] 31)
            have hfB : Below w.heap.size w _ := (below_put5 (hbel2.trans (hbel4.mono (by omega))) (Nat.le_refl _) (.int .i64 0) (.int .i64 0) (.int .i64 0) (.int .i64 0) (.int .i64 0)).alloc (by simp; omega) (Obj.cells #[.string ⟨#[]⟩, .int .i64 0, .bool false, .bool false, .bool false, .int .i64 0] 31)
            simp only [zeroB] at hfb
            generalize World.alloc _ _ = WW at hfb hfB ⊢
            obtain ⟨z0, z1, z2, z3, z4⟩ := hfb.cells
            refine bodyPost_ret (v := ofV ws xs xs) ?_ rfl ⟨rfl, hfB⟩
            rw [ofV, HE.out]
            simp [results, Try.results28, go_sem, z0, z1, z2, z3, z4, encB, zeroB]
          · rw [foundV_some]
            obtain ⟨r0, r1, r2, r3, r4⟩ := hBb4.cells
            obtain ⟨q0, q1, q2, q3, q4⟩ := hBb4.frz
            have d1 := hX4.cell 1
            simp only [List.getElem?_toArray, List.getElem?_cons_zero, List.getElem?_cons_succ] at d1
            have hSk := hSb _ (List.getElem_mem hlt)
            obtain ⟨hSk1, hSk2⟩ := hSk
            have hbd1 := hbd.add (C := 1000000000) (by omega) y hSk1 hSk2
            have est : sumB ws (xs.take (k + 1)) = addB (sumB ws (xs.take k)) y xs[k].amount := by rw [sumB_take ws xs k hlt, stepB, hf]; rfl
            have EST := Lib.hid est
            have hall1 : ∀ j, (hj : j < xs.length) → j < k + 1 → (findW ws xs[j].code).isSome = true := by
              intro j hj hjk
              rcases Nat.lt_or_ge j k with h1 | h1
              · exact hall.out j hj h1
              · obtain rfl : j = k := by omega
                rw [hf]; rfl
            have HALL := Lib.hid hall1
            clear hall1 est hf c0
            generalize sumB ws (xs.take k) = bb at *
            obtain ⟨⟨g1, g2⟩, ⟨g3, g4⟩, ⟨g5, g6⟩, ⟨g7, g8⟩, ⟨g9, g10⟩⟩ := hbd
            have hcut0 : OfCutP w w2 w4 wr xs[k] y ⟨bb.g + xs[k].amount, bb.c, bb.t, bb.i, bb.a⟩ ((w4.setCell ⟨w2.heap.size, 0, none⟩ (.int .i64 (bb.g + xs[k].amount))).alloc (.cells (encW y).toArray 31)) :=
              ⟨(hBb4.g _).alloc _, (hBr4.far (by simp; omega) _).alloc _, (hbel4.setCell (by simp) _).alloc (by simp; omega) _, by have := Blk.new (w4.setCell ⟨w2.heap.size, 0, none⟩ (.int .i64 (bb.g + xs[k].amount))) 31 (encW y).toArray; simpa using this, (hX4.far (by simp; omega) _).alloc _, by omega, by omega, by omega⟩
            have HC0 := Lib.hid hcut0
            clear hcut0
            go_upto_if 52 with fail
            generalize hW0 : World.alloc _ _ = W0
            have C0 : OfCutP w w2 w4 wr xs[k] y ⟨bb.g + xs[k].amount, bb.c, bb.t, bb.i, bb.a⟩ W0 := by rw [← hW0]; exact HC0.out
            clear hW0 r0 r1 r2 r3 r4 q0 q1 q2 q3 q4 d1 HC0 hBb4 hBr4 hBb hBr hbel hbel4 hB2 hXb hX4 hb4 c1
            obtain ⟨r0, r1, r2, r3, r4⟩ := C0.bs.cells
            obtain ⟨q0, q1, q2, q3, q4⟩ := C0.bs.frz
            have x1 := C0.xb.cell 1
            have y1 := C0.wg.cell 1
            have y2 := C0.wg.cell 2
            have y3 := C0.wg.cell 3
            have y4 := C0.wg.cell 4
            simp only [encW, List.getElem?_toArray, List.getElem?_cons_zero, List.getElem?_cons_succ] at x1 y1 y2 y3 y4
            go_cut [] (fun wx => OfCutP w w2 w4 wr xs[k] y ⟨bb.g + xs[k].amount, bb.c + (if y.kind = 1 then xs[k].amount else 0), bb.t, bb.i, bb.a⟩ wx)
            case first =>
              by_cases k1 : y.kind = 1
              · have k1' : (y.kind == 1) = true := by simp [k1]
                go_wp2
                go_meet
                have hz := (C0.set_c (bb.c + xs[k].amount))
                simpa [k1] using hz
              · have k1' : (y.kind == 1) = false := by simp [k1]
                go_wp2
                go_meet
                simpa [k1] using C0
            case rest =>
              clear r0 r1 r2 r3 r4 q0 q1 q2 q3 q4 x1 y1 y2 y3 y4 C0
              have C1 := hcut
              clear hcut
              obtain ⟨r0, r1, r2, r3, r4⟩ := C1.bs.cells
              obtain ⟨q0, q1, q2, q3, q4⟩ := C1.bs.frz
              have x1 := C1.xb.cell 1
              have y1 := C1.wg.cell 1
              have y2 := C1.wg.cell 2
              have y3 := C1.wg.cell 3
              have y4 := C1.wg.cell 4
              simp only [encW, List.getElem?_toArray, List.getElem?_cons_zero, List.getElem?_cons_succ] at x1 y1 y2 y3 y4
              go_upto_if 60 with fail
              go_cut [] (fun wx => OfCutP w w2 w4 wr xs[k] y ⟨bb.g + xs[k].amount, bb.c + (if y.kind = 1 then xs[k].amount else 0), bb.t + (if y.taxable = true then xs[k].amount else 0), bb.i, bb.a⟩ wx)
              case first =>
                rcases k1 : y.taxable with _ | _
                rotate_left
                · skip
                  go_wp2
                  go_meet
                  have hz := (C1.set_t (bb.t + xs[k].amount))
                  simpa [k1] using hz
                · skip
                  go_wp2
                  go_meet
                  simpa [k1] using C1
              case rest =>
                clear r0 r1 r2 r3 r4 q0 q1 q2 q3 q4 x1 y1 y2 y3 y4 C1
                have C2 := hcut
                clear hcut
                obtain ⟨r0, r1, r2, r3, r4⟩ := C2.bs.cells
                obtain ⟨q0, q1, q2, q3, q4⟩ := C2.bs.frz
                have x1 := C2.xb.cell 1
                have y1 := C2.wg.cell 1
                have y2 := C2.wg.cell 2
                have y3 := C2.wg.cell 3
                have y4 := C2.wg.cell 4
                simp only [encW, List.getElem?_toArray, List.getElem?_cons_zero, List.getElem?_cons_succ] at x1 y1 y2 y3 y4
                go_upto_if 68 with fail
                go_cut [] (fun wx => OfCutP w w2 w4 wr xs[k] y ⟨bb.g + xs[k].amount, bb.c + (if y.kind = 1 then xs[k].amount else 0), bb.t + (if y.taxable = true then xs[k].amount else 0), bb.i + (if y.insured = true then xs[k].amount else 0), bb.a⟩ wx)
                case first =>
                  rcases k1 : y.insured with _ | _
                  rotate_left
                  · skip
                    go_wp2
                    go_meet
                    have hz := (C2.set_i (bb.i + xs[k].amount))
                    simpa [k1] using hz
                  · skip
                    go_wp2
                    go_meet
                    simpa [k1] using C2
                case rest =>
                  clear r0 r1 r2 r3 r4 q0 q1 q2 q3 q4 x1 y1 y2 y3 y4 C2
                  have C3 := hcut
                  clear hcut
                  obtain ⟨r0, r1, r2, r3, r4⟩ := C3.bs.cells
                  obtain ⟨q0, q1, q2, q3, q4⟩ := C3.bs.frz
                  have x1 := C3.xb.cell 1
                  have y4 := C3.wg.cell 4
                  simp only [encW, List.getElem?_toArray, List.getElem?_cons_zero, List.getElem?_cons_succ] at x1 y4
                  have hfin : ∀ W', OfCutP w w2 w4 wr xs[k] y (addB bb y xs[k].amount) W' → ∃ k' : Nat, k' ≤ xs.length ∧ Value.int .i64 ((k : Int) + 1) = .int .i64 k' ∧ Hid (∀ j, (hj : j < xs.length) → j < k' → (findW ws xs[j].code).isSome = true) ∧ Bs W' w2.heap.size (sumB ws (xs.take k')) ∧ BddB (k' * 1000000000) (sumB ws (xs.take k')) ∧ Bs W' w.heap.size zeroB ∧ Below w2.heap.size w2 W' := by
                    intro W' hC
                    refine ⟨k + 1, by omega, by go_num, HALL.out, by rw [EST.out]; exact hC.bs, ?_, hC.rs, hC.bel⟩
                    have e9 : ((k + 1 : Nat) : Int) * 1000000000 = (k : Int) * 1000000000 + 1000000000 := by omega
                    rw [EST.out, e9]; exact hbd1
                  have HFIN := Lib.hid hfin
                  clear hfin
                  rcases k1 : y.attachable with _ | _
                  · have C4 : OfCutP w w2 w4 wr xs[k] y (addB bb y xs[k].amount) wc := by simpa [addB, k1] using C3
                    clear C3
                    go_wp2
                    go_roundw
                    case rel =>
                      have hf := HFIN.out _ C4
                      first | exact hf | ((repeat apply Exists.intro); exact ⟨hf, rfl⟩)
                    case measure => simp [intOf]; omega
                  · have C4 : OfCutP w w2 w4 wr xs[k] y (addB bb y xs[k].amount) (wc.setCell ⟨w2.heap.size, 4, none⟩ (.int .i64 (bb.a + xs[k].amount))) := by simpa [addB, k1] using C3.set_a (bb.a + xs[k].amount)
                    clear C3
                    go_wp2
                    go_roundw
                    case rel =>
                      have hf := HFIN.out _ C4
                      first | exact hf | ((repeat apply Exists.intro); exact ⟨hf, rfl⟩)
                    case measure => simp [intOf]; omega
        · have hSk : xs.take k = xs := List.take_of_length_le (by omega)
          rw [hSk] at hBb hbd
          have hmiss : Hid (missing ws xs = false) := by
            rw [Hid, missing, List.any_eq_false]
            intro x hx
            obtain ⟨j, hj, rfl⟩ := List.mem_iff_getElem.1 hx
            have := hall.out j hj (by omega)
            rw [Option.isSome_iff_ne_none] at this
            simpa using this
          obtain ⟨r0, r1, r2, r3, r4⟩ := hBb.cells
          obtain ⟨p0, p1, p2, p3, p4⟩ := hBr.cells
          obtain ⟨q0, q1, q2, q3, q4⟩ := hBr.frz
          have HBB : Hid (Below w.heap.size w wr) := hbel2.trans (hbel.mono (by omega))
          have HOF : Hid (ofErr ws xs xs = if amtsB (sumB ws xs) = false then 4 else 0) := by
            simp only [Hid, ofErr, HV.out, H0.out, hmiss.out, if_false, Bool.true_eq_false, Bool.false_eq_true, ne_eq, not_true_eq_false]
          have hw4 : w.heap.size < wr.heap.size := by omega
          clear hSk hall hbd
          generalize hbb : sumB ws xs = bb at *
          have HBBS := Lib.hid hbb
          clear hbb
          go_wp2
          go_loop [95] (fun i => ∃ k : Nat, k ≤ 5 ∧ i = .int .i64 k ∧ Hid (∀ j, j < k → amtB (nthB bb j) = true)) (fun i => 5 - (intOf i).toNat)
          case atStart => exact ⟨0, by omega, rfl, fun j hj => absurd hj (by omega)⟩
          case round =>
            obtain ⟨m, hm, rfl, hok⟩ := hrel
            by_cases hm5 : m < 5
            · have hidx := idx5 bb m hm5
              by_cases ha : amtB (nthB bb m) = true
              · go_wp2_with (go_at_call 35; refine (isAmount_any _ _).mono ?_; rintro e w' ⟨rfl, rfl⟩)
                go_round
                case rel =>
                  refine ⟨m + 1, by omega, by go_num, fun j hj => ?_⟩
                  rcases Nat.lt_or_ge j m with h1 | h1
                  · exact hok.out j h1
                  · obtain rfl : j = m := by omega
                    exact ha
                case measure => simp [intOf]; omega
              · have ha' : amtB (nthB bb m) = false := by simpa using ha
                have HE : Hid (ofErr ws xs xs = 4) := by rw [Hid, HOF.out, if_pos (amts_no hm5 ha')]
                clear ha
                go_wp2_with (go_at_call 35; refine (isAmount_any _ _).mono ?_; rintro e w' ⟨rfl, rfl⟩)
                have hfb := (hBr.put zeroB)
                have hfB : Below w.heap.size w _ := below_put5 HBB.out (Nat.le_refl _) (.int .i64 0) (.int .i64 0) (.int .i64 0) (.int .i64 0) (.int .i64 0)
                simp only [zeroB] at hfb
                generalize World.setCell _ ⟨w.heap.size, 4, none⟩ _ = WW at hfb hfB ⊢
                obtain ⟨z0, z1, z2, z3, z4⟩ := hfb.cells
                refine bodyPost_ret (v := ofV ws xs xs) ?_ rfl ⟨rfl, hfB⟩
                rw [ofV, HE.out]
                simp [results, Try.results28, go_sem, z0, z1, z2, z3, z4, encB, zeroB]
            · have HE : Hid (ofErr ws xs xs = 0) := by rw [Hid, HOF.out, if_neg (by rw [amts_yes (fun j hj => hok.out j (by omega))]; simp)]
              go_wp2
              have hfb := (hBr.put bb)
              have hfB : Below w.heap.size w _ := below_put5 HBB.out (Nat.le_refl _) (.int .i64 bb.g) (.int .i64 bb.c) (.int .i64 bb.t) (.int .i64 bb.i) (.int .i64 bb.a)
              generalize World.setCell _ ⟨w.heap.size, 4, none⟩ _ = WW at hfb hfB ⊢
              obtain ⟨z0, z1, z2, z3, z4⟩ := hfb.cells
              refine bodyPost_ret (v := ofV ws xs xs) ?_ rfl ⟨rfl, hfB⟩
              rw [ofV, HE.out, if_pos rfl, HBBS.out]
              simp [results, Try.results28, go_sem, z0, z1, z2, z3, z4, encB]
    · have h0' : (preErr xs != 0) = true := by simpa using h0
      have HE : Hid (ofErr ws xs xs = preErr xs) := by
        rw [Hid, ofErr, if_neg (by simp [HV.out]), if_pos h0]
      have H0 := Lib.hid h0
      obtain ⟨p0, p1, p2, p3, p4⟩ := hB2.cells
      obtain ⟨q0, q1, q2, q3, q4⟩ := hB2.frz
      have HBB := Lib.hid hbel2
      clear h0
      go_wp2
      have hfb := (hB2.put zeroB)
      have hfB : Below w.heap.size w _ := below_put5 HBB.out (Nat.le_refl _) (.int .i64 0) (.int .i64 0) (.int .i64 0) (.int .i64 0) (.int .i64 0)
      simp only [zeroB] at hfb
      generalize World.setCell _ ⟨w.heap.size, 4, none⟩ _ = WW at hfb hfB ⊢
      obtain ⟨z0, z1, z2, z3, z4⟩ := hfb.cells
      refine bodyPost_ret (v := ofV ws xs xs) ?_ rfl ⟨rfl, hfB⟩
      rw [ofV, HE.out, if_neg H0.out]
      simp [results, Try.results28, go_sem, z0, z1, z2, z3, z4, encB, zeroB]
  · have hv' : validB ws = false := by simpa using hv
    have HE : Hid (ofErr ws xs xs = 1) := by rw [Hid, ofErr, if_pos hv']
    obtain ⟨p0, p1, p2, p3, p4⟩ := hB1.cells
    obtain ⟨q0, q1, q2, q3, q4⟩ := hB1.frz
    have HBB := Lib.hid hbel1
    clear hv
    go_wp2
    have hfb := (hB1.put zeroB)
    have hfB : Below w.heap.size w _ := below_put5 HBB.out (Nat.le_refl _) (.int .i64 0) (.int .i64 0) (.int .i64 0) (.int .i64 0) (.int .i64 0)
    simp only [zeroB] at hfb
    generalize World.setCell _ ⟨w.heap.size, 4, none⟩ _ = WW at hfb hfB ⊢
    obtain ⟨z0, z1, z2, z3, z4⟩ := hfb.cells
    refine bodyPost_ret (v := ofV ws xs xs) ?_ rfl ⟨rfl, hfB⟩
    rw [ofV, HE.out]
    simp [results, Try.results28, go_sem, z0, z1, z2, z3, z4, encB, zeroB]

end Go.Proofs.Ytlfefcfddpmccaa
