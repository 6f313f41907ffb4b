/- The walk of payrolllaw26.WageAdds: it returns true and turns nothing that was there. Conditions: as stated. -/
import Derived.Test.YtlfefcfddpmccaaPlain2
import Derived.Test.YtlfefcfddpmccaaAwake
import Derived.Test.YtlfefcfddpmccaaData2
namespace Go.Proofs.Ytlfefcfddpmccaa
open Go.RowKit

theorem eqB2 (b : BasesT) (w : World) : Sem.run Try.prog (binOp .eql 52 (.agg #[.int .i64 b.g, .int .i64 b.c, .int .i64 b.t, .int .i64 b.i, .int .i64 b.a]) (.agg #[.int .i64 b.g, .int .i64 b.c, .int .i64 b.t, .int .i64 b.i, .int .i64 b.a])) w = .ok (.bool true) w := by
  have u3 := Try.underlying3
  have a3 := Try.isAgg3
  have z3 := Try.sizeOf3
  have hS : Try.prog.underlying 52 = some (.struct (Try.prog.fieldsOf 52)) := by kernel_rfl
  have hp : Try.prog.stoodInHeld 52 = false := by kernel_rfl
  rw [run_eql_struct, show (10000 : Nat) = 9999 + 1 from rfl, run_equalIn_agg w 9999 52 _ _ hS hp]
  simp only [Program.fieldsOf, Try.underlying52]
  go_simp
theorem wages_size2 {ws : List WageT} (h : GenW 4 ws) : ∀ x ∈ ws, x.code.size ≤ maxLen := fun x hx => by
  have : ∀ c ∈ codes4, c.size ≤ 24 := by decide
  exact Nat.le_trans (this _ (h.ok x hx).code) (by unfold maxLen; omega)
theorem elems_size2 {ws : List WageT} {es : List Elem} (h : GenW 4 ws) (he : GenE ws es) : ∀ x ∈ es, x.code.size ≤ maxLen := fun x hx => by
  obtain ⟨y, hy, e⟩ := (he x hx).1
  rw [e]; exact wages_size2 h y hy

set_option maxRecDepth 100000 in
set_option maxHeartbeats 4000000 in
theorem adds_walk (B : Option Addr) (lcap : Nat) (l : List Int) (w : World)
    (hI : SliceOf encI 1 w w.heap.size B l) (hIl : l.length ≤ 9223372036854775807) (hIb : ∀ x ∈ l, I64 x) :
    Calls Try.prog 8 #[.slice B l.length lcap] w fun e w' => e = .returned (.bool true) ∧ Below w.heap.size w w' := by
  go_enter Try.func8, Try.ntmps8
  go_wp2_with fail
  refine (new_any B l lcap _ hI hIl hIb).mono ?_
  rintro e w1 ⟨rfl, hd1, hb1⟩
  go_wp2_with fail
  refine (wages_any w.heap.size 0 _ (by omega) hd1).mono ?_
  rintro e w2 ⟨v2, ws, rfl, hgen, hown2, hd2, hg2⟩
  have hs1 := hd1.lt
  have hs2 := hg2.size
  have hwl := hgen.len
  obtain ⟨A2, c2, rfl, hS2, hB2, hlc2, hcm2⟩ := hown2.form2 encW_len
  have hA2 : ∀ a, A2 = some a → a.block ≠ w.heap.size := fun a ha => by have := hB2 a ha; omega
  go_wp2_with fail
  refine (elements_any w.heap.size 20 A2 ws c2 5 _ (by omega) (by omega) (by omega) hd2 hS2 hA2 (by omega)).mono ?_
  rintro e w3 ⟨v3, e3, rfl, hge3, hel3, hown3, hd3, hg3⟩
  have hs3 := hg3.size
  obtain ⟨A3, c3, rfl, hS3, hB3, hlc3, hcm3⟩ := hown3.form2 encE_len
  have hA3 : ∀ a, A3 = some a → a.block ≠ w.heap.size := fun a ha => by have := hB3 a ha; omega
  go_wp2_with fail
  refine (elements_any w.heap.size (20 + 1 + 4 * 5) A2 ws c2 5 _ (by omega) (by omega) (by omega) hd3 (hS2.advG hg3 hA2) hA2 (by omega)).mono ?_
  rintro e w4 ⟨v4, e4, rfl, hge4, hel4, hown4, hd4, hg4⟩
  have hs4 := hg4.size
  obtain ⟨A4, c4, rfl, hS4, hB4, hlc4, hcm4⟩ := hown4.form2 encE_len
  have hW4 := (hS2.advG hg3 hA2).advG hg4 hA2
  have hE4 := hS3.advG hg4 hA3
  have hbel4 : Below w.heap.size w w4 := bel_only (bel_only (bel_only hb1 hg2 (fun g e => by injection e; omega)) hg3 (fun g e => by injection e; omega)) hg4 (fun g e => by injection e; omega)
  have V3 := Lib.hid (ofV_gen hgen hge3 (by omega))
  have V4 := Lib.hid (ofV_gen hgen hge4 (by omega))
  have V5 := Lib.hid (ofV_gen hgen (hge4.append hge3) (by simp; omega))
  have B3 := sumB_bdd hge3 (by omega)
  have B4 := sumB_bdd hge4 (by omega)
  have HWS := Lib.hid (wages_size2 hgen)
  have HE3 := Lib.hid (elems_size2 hgen hge3)
  have HE4 := Lib.hid (elems_size2 hgen hge4)
  have HE5 := Lib.hid (elems_size2 hgen (hge4.append hge3))
  have HSUM := Lib.hid (sumB_append ws e3 e4)
  clear hS2 hS3 hB2 hB3 hB4 hA2 hA3 hown2 hown3 hown4 hd1 hd2 hd3 hd4 hI hIb hg2 hg3 hg4 hb1 hgen hge3 hge4
  go_wp2_with fail
  refine (of_any A2 A3 c2 c3 ws e3 _ hW4 HWS.out (by omega) hE4 HE3.out (by omega)).mono ?_
  rintro e w5 ⟨rfl, hb5⟩
  rw [V3.out]
  generalize hx3 : sumB ws e3 = x3 at *
  obtain ⟨⟨a1, a2⟩, ⟨a3, a4⟩, ⟨a5, a6⟩, ⟨a7, a8⟩, ⟨a9, a10⟩⟩ := B3
  clear hx3 V3
  rw [encB]
  go_wp2_with fail
  refine (of_any A2 A4 c2 c4 ws e4 _ ((hW4.adv hb5).advA _) HWS.out (by omega) ((hS4.adv hb5).advA _) HE4.out (by omega)).mono ?_
  rintro e w6 ⟨rfl, hb6⟩
  rw [V4.out]
  generalize hx4 : sumB ws e4 = x4 at *
  obtain ⟨⟨b1, b2⟩, ⟨b3, b4⟩, ⟨b5, b6⟩, ⟨b7, b8⟩, ⟨b9, b10⟩⟩ := B4
  clear hx4 V4
  rw [encB]
  have hW6 := (((hW4.adv hb5).advA (Obj.cells #[.int .i64 x3.g, .int .i64 x3.c, .int .i64 x3.t, .int .i64 x3.i, .int .i64 x3.a] 52)).adv hb6).advA (Obj.cells #[.int .i64 x4.g, .int .i64 x4.c, .int .i64 x4.t, .int .i64 x4.i, .int .i64 x4.a] 52)
  have hE6 := (((hE4.adv hb5).advA (Obj.cells #[.int .i64 x3.g, .int .i64 x3.c, .int .i64 x3.t, .int .i64 x3.i, .int .i64 x3.a] 52)).adv hb6).advA (Obj.cells #[.int .i64 x4.g, .int .i64 x4.c, .int .i64 x4.t, .int .i64 x4.i, .int .i64 x4.a] 52)
  have hF6 := (((hS4.adv hb5).advA (Obj.cells #[.int .i64 x3.g, .int .i64 x3.c, .int .i64 x3.t, .int .i64 x3.i, .int .i64 x3.a] 52)).adv hb6).advA (Obj.cells #[.int .i64 x4.g, .int .i64 x4.c, .int .i64 x4.t, .int .i64 x4.i, .int .i64 x4.a] 52)
  have hX6 := ((Blk.new w5 52 #[.int .i64 x3.g, .int .i64 x3.c, .int .i64 x3.t, .int .i64 x3.i, .int .i64 x3.a]).adv hb6).alloc (Obj.cells #[.int .i64 x4.g, .int .i64 x4.c, .int .i64 x4.t, .int .i64 x4.i, .int .i64 x4.a] 52)
  have hY6 := Blk.new w6 52 #[.int .i64 x4.g, .int .i64 x4.c, .int .i64 x4.t, .int .i64 x4.i, .int .i64 x4.a]
  have hbel6 := bel_alloc (bel_adv (bel_alloc (bel_adv hbel4 hb5) (Obj.cells #[.int .i64 x3.g, .int .i64 x3.c, .int .i64 x3.t, .int .i64 x3.i, .int .i64 x3.a] 52)) hb6) (Obj.cells #[.int .i64 x4.g, .int .i64 x4.c, .int .i64 x4.t, .int .i64 x4.i, .int .i64 x4.a] 52)
  clear hW4 hE4 hS4 hb5 hb6 hbel4
  go_upto_region 6 with fail
  generalize hw6 : w6.alloc (Obj.cells #[.int .i64 x4.g, .int .i64 x4.c, .int .i64 x4.t, .int .i64 x4.i, .int .i64 x4.a] 52) = w6x at *
  have hO6 := Own.lit encE_len w6x [] #[] 44 rfl (by simp) (Nat.le_refl _)
  have hz6 : w6x.heap.size ≤ (w6x.alloc (.cells #[] 44)).heap.size := by simp
  have tok1 : True := trivial
  clear hw6
  go_wp2_with (first
    | (at_builtin; have _t := tok1; (refine wpList_append_list (xs := []) (ys := e4) _ _ 38 _ 24 _ infoE Try.underlying38 hO6 (hF6.advA _) encE_len (by omega) rfl encE_one (by simp; omega) (by omega) hz6 (by rfl) (by rfl) (by rfl) (by rfl) rfl ?_); intro v7 w7 hown7 hg7; have hE7 := hE6.fresh hg7; have hs7 := fresh_size hg7; clear tok1)
    | (at_builtin; (refine wpList_append_list (xs := [] ++ e4) (ys := e3) _ _ 38 _ 24 _ infoE Try.underlying38 hown7 hE7 encE_len (by omega) rfl encE_one (by simp; omega) (by omega) (by omega) (by rfl) (by rfl) (by rfl) (by rfl) rfl ?_); intro v8 w8 hown8 hg8))
  rw [List.nil_append] at hown8
  have hb7 := fresh_below hg7
  have hb8 : Below w6x.heap.size w6x w8 := hb7.trans (hown7.below_of hg8 (by omega))
  obtain ⟨A8, c8, rfl, hS8, hB8, hlc8, hcm8⟩ := hown8.form2 encE_len
  have hX8 := hX6.adv hb8
  have hY8 := hY6.adv hb8
  have hW8 := hW6.adv hb8
  have hbel8 := bel_adv hbel6 hb8
  clear hO6 hown7 hown8 hE7 hE6 hF6 hX6 hY6 hW6 hbel6 hg7 hg8 hb7 hb8 hB8 hz6
  refine (of_any A2 A8 c2 c8 ws (e4 ++ e3) _ hW8 HWS.out (by omega) hS8 HE5.out (by simp; omega)).mono ?_
  rintro e w9 ⟨rfl, hb9⟩
  rw [V5.out, HSUM.out, encB, plusB]
  have hX9 := hX8.adv hb9
  have hY9 := hY8.adv hb9
  have hbel9 := bel_adv hbel8 hb9
  have hlx := hX9.lt
  have hly := hY9.lt
  have p0 := hX9.cell 0
  have p1 := hX9.cell 1
  have p2 := hX9.cell 2
  have p3 := hX9.cell 3
  have p4 := hX9.cell 4
  simp only [List.getElem?_toArray, List.getElem?_cons_zero, List.getElem?_cons_succ] at p0 p1 p2 p3 p4
  have q0 := hY9.cell 0
  have q1 := hY9.cell 1
  have q2 := hY9.cell 2
  have q3 := hY9.cell 3
  have q4 := hY9.cell 4
  simp only [List.getElem?_toArray, List.getElem?_cons_zero, List.getElem?_cons_succ] at q0 q1 q2 q3 q4
  have heq := eqB2 (plusB x3 x4)
  have hgd := guardB
  simp only [plusB] at heq
  clear hX8 hY8 hW8 hS8 hbel8 hb9 hX9 hY9 V5 HSUM
  go_wp2_with fail
  refine (awake_any _).mono ?_
  rintro e w10 ⟨rfl, hb10⟩
  go_wp2
  go_ret
  exact ⟨rfl, bel_adv (bel_alloc (bel_alloc hbel9 _) _) hb10⟩

end Go.Proofs.Ytlfefcfddpmccaa
