/- The walk of payrolllaw26.WageBases: it returns true and turns nothing that was there. Conditions: as stated. -/
import Derived.Test.YtlfefcfddpmccaaOfEq
import Derived.Test.YtlfefcfddpmccaaGenE
import Derived.Test.YtlfefcfddpmccaaAwake
namespace Go.Proofs.Ytlfefcfddpmccaa
open Go.RowKit

theorem eqB (b : BasesT) (w : World) : Sem.run Try.prog (binOp .eql 52 (.agg #[.int .i64 b.g, .int .i64 b.c, .int .i64 b.t, .int .i64 b.i, .int .i64 b.a]) (.agg #[.int .i64 b.g, .int .i64 b.c, .int .i64 b.t, .int .i64 b.i, .int .i64 b.a])) w = .ok (.bool true) w := by
  have u3 := Try.underlying3
  have a3 := Try.isAgg3
  have z3 := Try.sizeOf3
  have hS : Try.prog.underlying 52 = some (.struct (Try.prog.fieldsOf 52)) := by kernel_rfl
  have hp : Try.prog.stoodInHeld 52 = false := by kernel_rfl
  rw [run_eql_struct, show (10000 : Nat) = 9999 + 1 from rfl, run_equalIn_agg w 9999 52 _ _ hS hp]
  simp only [Program.fieldsOf, Try.underlying52]
  go_simp
theorem ofV_form (ws : List WageT) (l m : List Elem) : ∃ (b : BasesT) (n : Int), ofV ws l m = .tuple #[.agg #[.int .i64 b.g, .int .i64 b.c, .int .i64 b.t, .int .i64 b.i, .int .i64 b.a], .int .i64 n] := ⟨_, _, rfl⟩
theorem wages_size {ws : List WageT} (h : GenW 4 ws) : ∀ x ∈ ws, x.code.size ≤ maxLen := fun x hx => by
  have : ∀ c ∈ codes4, c.size ≤ 24 := by decide
  exact Nat.le_trans (this _ (h.ok x hx).code) (by unfold maxLen; omega)
theorem elems_size {ws : List WageT} {es : List Elem} (h : GenW 4 ws) (he : GenE ws es) : ∀ x ∈ es, x.code.size ≤ maxLen := fun x hx => by
  obtain ⟨y, hy, e⟩ := (he x hx).1
  rw [e]; exact wages_size h y hy

/-- What stands before the two calls of Of. -/
def BCut (w : World) (A2 : Option Addr) (ws : List WageT) (v : Value) (wx : World) : Prop := ∃ zs : List Elem, Own encE 2 44 wx w.heap.size v zs ∧ (∀ x ∈ zs, x.code.size ≤ maxLen) ∧ zs.length ≤ 200 ∧ SliceOf encW 6 wx wx.heap.size A2 ws ∧ Below w.heap.size w wx

set_option maxRecDepth 100000 in
set_option maxHeartbeats 4000000 in
theorem bases_walk (A B : Option Addr) (cap lcap : Nat) (xs : List Elem) (l : List Int) (odd : Bool) (w : World) (h : SliceOf encE 2 w w.heap.size A xs) (hz : ∀ x ∈ xs, x.code.size ≤ maxLen) (hl : xs.length ≤ 9223372036854775807)
    (hI : SliceOf encI 1 w w.heap.size B l) (hIl : l.length ≤ 9223372036854775807) (hIb : ∀ x ∈ l, I64 x) :
    Calls Try.prog 6 #[.slice B l.length lcap, .slice A xs.length cap, .bool odd] w fun e w' => e = .returned (.bool true) ∧ Below w.heap.size w w' := by
  have HZ := Lib.hid hz; clear hz
  by_cases hsh : shortEB xs = true
  · have hlen : xs.length ≤ 140 := by simp [shortEB] at hsh; exact hsh.1
    go_enter Try.func6, Try.ntmps6
    go_wp2_with (go_at_call 19; refine (shortE_any A cap xs _ _ h hl).mono ?_; rintro e w' ⟨rfl, rfl⟩)
    refine (new_any B l lcap _ hI hIl hIb).mono ?_
    rintro e w1 ⟨rfl, hd1, hb1⟩
    go_wp2_with fail
    refine (wages_any w.heap.size 0 _ (by omega) hd1).mono ?_
    rintro e w2 ⟨v2, ws, rfl, hgen, hown, hd2, hg2⟩
    have hs1 := hd1.lt
    have hbel2 : Below w.heap.size w w2 := hb1.grown hg2 hb1.size (fun g e => by injection e; omega)
    have hs2 := hg2.size
    have hwl := hgen.len
    obtain ⟨A2, c2, rfl, hS2, hB2, hlc, hcm⟩ := hown.form2 encW_len
    go_wp2_with fail
    refine (elements_any w.heap.size 20 A2 ws c2 8 _ (by omega) (by omega) (by omega) hd2 hS2 (fun a ha => by have := hB2 a ha; omega) (by omega)).mono ?_
    rintro e w3 ⟨v3, es, rfl, hge, hel, hown3, hd3, hg3⟩
    have hbel3 : Below w.heap.size w w3 := hbel2.grown hg3 hbel2.size (fun g e => by injection e; omega)
    have hs3 := hg3.size
    have hS2' : SliceOf encW 6 w3 w2.heap.size A2 ws := by
      intro hne
      obtain ⟨b, off, hA, hb, hc⟩ := hS2 hne
      have hbb := hB2 _ hA
      simp only at hbb
      exact ⟨b, off, hA, hb, fun i x hi j v hj => (World.cell?_of_block (hg3.block b hb (fun e => by injection e; omega))).trans (hc i x hi j v hj)⟩
    have HWS := Lib.hid (wages_size hgen)
    have HES := Lib.hid (elems_size hgen hge)
    clear hown hS2 hB2 hd1 hd2 hd3 hI hIb hg2 hg3 hb1 hgen hge hbel2
    go_upto_if 25 with fail
    go_cut [9] (fun s9 wx => BCut w A2 ws s9 wx)
    case first =>
      cases odd
      · go_wp2_with fail
        go_meet
        exact ⟨es, hown3.weaken (by omega), HES.out, by omega, hS2'.more hs3, hbel3⟩
      · go_wp2_with (at_builtin; (refine wpList_append_list (ys := xs) _ _ 38 _ 24 _ infoE Try.underlying38 hown3 (h.below hbel3) encE_len (by omega) rfl encE_one (by omega) (by omega) (by omega) (by rfl) (by rfl) (by rfl) (by rfl) rfl ?_); intro v4 w4 hown4 hg4)
        go_meet
        have hr3 := fun q hq => (hown3.block_lt (g := q) hq).1
        refine ⟨es ++ xs, hown4.weaken (by omega), ?_, by simp; omega, (hS2'.grown hg4 (by omega) hr3).more (by have := hg4.size; omega), bel_only hbel3 hg4 (fun g e => by have := hr3 g e; omega)⟩
        intro x hx
        rcases List.mem_append.1 hx with hx | hx
        · exact HES.out x hx
        · exact HZ.out x hx
    case rest =>
      obtain ⟨zs, hown, hzs, hzl, hS, hbel⟩ := hcut
      have HZS := Lib.hid hzs; clear hzs
      obtain ⟨A3, c3, rfl, hS3, hB3, hlc3, hcm3⟩ := hown.form2 encE_len
      clear hS2' hbel3 hown hown3 HES
      go_wp2_with fail
      refine (of_any A2 A3 c2 c3 ws zs _ hS HWS.out (by omega) hS3 HZS.out (by omega)).mono ?_
      rintro e w4 ⟨rfl, hb4⟩
      obtain ⟨bb, n, hv⟩ := ofV_form ws zs zs
      rw [hv]
      have HV := Lib.hid hv; clear hv
      go_wp2_with fail
      refine (of26_any A2 A3 c2 c3 ws zs _ ((hS.adv hb4).advA _) HWS.out (by omega) ((hS3.adv hb4).advA _) HZS.out (by omega)).mono ?_
      rintro e w5 ⟨rfl, hb5⟩
      rw [ofV_sums, HV.out]
      have hB5 := (Blk.new w4 _ _).adv hb5
      have hbel5 := bel_adv (bel_alloc (bel_adv hbel hb4) _) hb5
      have hl5 := hB5.lt
      have z0 := hB5.cell 0
      have z1 := hB5.cell 1
      have z2 := hB5.cell 2
      have z3 := hB5.cell 3
      have z4 := hB5.cell 4
      simp only [List.getElem?_toArray, List.getElem?_cons_zero, List.getElem?_cons_succ] at z0 z1 z2 z3 z4
      have heq := eqB bb
      have hgd := guardB
      clear hb4 hb5 hB5 HV hS hS3
      go_wp2_with fail
      refine (awake_any _).mono ?_
      rintro e w6 ⟨rfl, hb6⟩
      go_wp2
      go_ret
      exact ⟨rfl, bel_adv (bel_alloc hbel5 _) hb6⟩
  · have hsh' : shortEB xs = false := by simpa using hsh
    clear hsh
    go_enter Try.func6, Try.ntmps6
    go_wp2_with (go_at_call 19; refine (shortE_any A cap xs _ _ h hl).mono ?_; rintro e w' ⟨rfl, rfl⟩)
    refine (awake_any _).mono ?_
    rintro e w5 ⟨rfl, hb5⟩
    go_wp2
    go_ret
    exact ⟨rfl, hb5⟩

end Go.Proofs.Ytlfefcfddpmccaa
