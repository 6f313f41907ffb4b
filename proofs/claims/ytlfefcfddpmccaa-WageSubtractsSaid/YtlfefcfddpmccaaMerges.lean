/- The walk of payrolllaw26.WageMerges: it returns true and turns nothing that was there. Conditions: as stated. -/
import Derived.Test.YtlfefcfddpmccaaAwake
namespace Go.Proofs.Ytlfefcfddpmccaa
open Go.RowKit

theorem sameB_self (xs : List Elem) : sameB xs xs = true := by simp [sameB]
theorem same_self (A B : Option Addr) (c d : Nat) (xs : List Elem) (w : World) (hx : SliceOf encE 2 w w.heap.size A xs) (hy : SliceOf encE 2 w w.heap.size B xs) (hl : xs.length ≤ 9223372036854775807) :
    Calls Try.prog 26 #[.slice A xs.length c, .slice B xs.length d] w fun e w' => e = .returned (.bool true) ∧ ∃ q, w' = w.drewN q := by
  have := same_any A B c d xs xs w w.heap.size hx hy hl hl
  rw [sameB_self] at this
  exact this
theorem preLen {xs : List Elem} : (mergeR xs).length ≤ 128 := by
  by_cases h0 : preErr xs = 0
  · have : xs.length ≤ 128 := by
      rcases Nat.lt_or_ge 128 xs.length with h1 | h1
      · rw [preErr, if_pos h1] at h0; cases h0
      · exact h1
    rw [mergeR, if_pos h0]
    exact Nat.le_trans (List.length_filter_le _ _) (Nat.le_trans (sumsP_length xs) this)
  · rw [mergeR, if_neg h0]; simp

def SmallE (es : List Elem) : Prop := ∀ x ∈ es, x.code.size ≤ maxLen
theorem SmallE.nil_ : SmallE [] := fun x hx => by cases hx
theorem SmallE.snoc {es : List Elem} (h : SmallE es) {x : Elem} (hx : x.code ∈ code8) : SmallE (es ++ [x]) := fun y hy => by
  rcases List.mem_append.1 hy with hy | hy
  · exact h y hy
  · simp at hy; subst hy; exact Nat.le_trans (code8_size _ hx) (by unfold maxLen; omega)

/-- What the test of the loop leaves. -/
def MTest (w : World) (k : Nat) (v : Value) (es : List Elem) (s : Value) (wx : World) : Prop := ∃ r : Bool, s = .bool r ∧ (r = true → k < 12) ∧ Own encE 2 44 wx (w.heap.size + 1) v es ∧ DeckIn wx w.heap.size (4 * k) ∧ Below w.heap.size w wx

set_option maxRecDepth 100000 in
set_option maxHeartbeats 4000000 in
theorem merges_walk (A B : Option Addr) (cap lcap : Nat) (xs : List Elem) (l : List Int) (w : World) (h : SliceOf encE 2 w w.heap.size A xs) (hz : ∀ x ∈ xs, x.code.size ≤ maxLen) (hl : xs.length ≤ 9223372036854775807)
    (hI : SliceOf encI 1 w w.heap.size B l) (hIl : l.length ≤ 9223372036854775807) (hIb : ∀ x ∈ l, I64 x) :
    Calls Try.prog 5 #[.slice A xs.length cap, .slice B l.length lcap] w fun e w' => e = .returned (.bool true) ∧ Below w.heap.size w w' := by
  have HZ := Lib.hid hz; clear hz
  by_cases hsh : shortEB xs = true
  · have hlen : xs.length ≤ 140 := by simp [shortEB] at hsh; exact hsh.1
    go_enter Try.func5, Try.ntmps5
    go_wp2_with (go_at_call 19; refine (shortE_any A cap xs _ _ h hl).mono ?_; rintro e w' ⟨rfl, rfl⟩)
    refine (new_any B l lcap _ hI hIl hIb).mono ?_
    rintro e w1 ⟨rfl, hd1, hb1⟩
    go_wp2_with fail
    go_loopw [6, 7] (fun v i wr => ∃ (k : Nat) (es : List Elem), k ≤ 12 ∧ i = .int .i64 k ∧ es.length ≤ k ∧ SmallE es ∧ Own encE 2 44 wr (w.heap.size + 1) v es ∧ DeckIn wr w.heap.size (4 * k) ∧ Below w.heap.size w wr) (fun _ i _ => 12 - (intOf i).toNat)
    case atStart => exact ⟨0, [], by omega, rfl, by simp, SmallE.nil_, Own.nil_ _ _, hd1, hb1⟩
    case round =>
      obtain ⟨k, es, hk, rfl, hel, hsm, hown, hdk, hbel⟩ := hrel
      have HSM := Lib.hid hsm; clear hsm
      have hltr := hdk.lt
      go_upto_region 6 with fail
      go_cut [27] (fun s wx => MTest w k u6 es s wx)
      case first =>
        by_cases hlt : k < 12
        · go_wp2_with fail
          refine (left_any w.heap.size (4 * k) _ hdk).mono ?_
          rintro e w2 ⟨r, rfl, hd2, hg2⟩
          cases r
          all_goals
            go_wp2_with fail
            go_meet
            exact ⟨_, rfl, fun _ => hlt, hown.kept hg2 (by intro g e; injection e; omega), hd2, bel_only hbel hg2 (fun g e => by injection e; omega)⟩
        · go_wp2_with fail
          go_meet
          exact ⟨false, rfl, (fun h => by cases h), hown, hdk, hbel⟩
      case rest =>
        clear hown hdk hbel
        obtain ⟨r, rfl, hr, hown, hdk, hbel⟩ := hcut
        have hbs := hbel.size
        have hltr := hdk.lt
        cases r
        · clear hr
          obtain ⟨A6, c6, rfl, hS6, hB6, hlc6, hcm6⟩ := hown.form2 encE_len
          clear hown hdk
          have hS := h.adv hbel
          go_wp2_with fail
          refine (merge_any A cap xs _ hS HZ.out (by omega)).mono ?_
          rintro e w2 ⟨A2, c2, rfl, hS2, hc2, hcm2, hb2⟩
          go_wp2_with fail
          refine (merge26_any A cap xs _ (hS.adv hb2) HZ.out (by omega)).mono ?_
          rintro e w3 ⟨v3, rfl, hown3, hb3⟩
          obtain ⟨A3, c3, rfl, hS3, hB3, hlc3, hcm3⟩ := hown3.form2 encE_len
          go_wp2_with fail
          refine (merge_any A6 c6 es _ ((hS6.adv hb2).adv hb3) HSM.out (by omega)).mono ?_
          rintro e w4 ⟨A4, c4, rfl, hS4, hc4, hcm4, hb4⟩
          go_wp2_with fail
          refine (merge26_any A6 c6 es _ (((hS6.adv hb2).adv hb3).adv hb4) HSM.out (by omega)).mono ?_
          rintro e w5 ⟨v5, rfl, hown5, hb5⟩
          obtain ⟨A5, c5, rfl, hS5, hB5, hlc5, hcm5⟩ := hown5.form2 encE_len
          have hp1 := preLen (xs := xs)
          have hp2 := preLen (xs := es)
          have hT2 := ((hS2.adv hb3).adv hb4).adv hb5
          have hT3 := (hS3.adv hb4).adv hb5
          have hT4 := hS4.adv hb5
          have hbel5 := bel_adv (bel_adv (bel_adv (bel_adv hbel hb2) hb3) hb4) hb5
          clear hS hS2 hS3 hS4 hS6 hb2 hb3 hb4 hb5 hown3 hown5 hB3 hB5 hB6 HSM hbel
          go_wp2_with fail
          refine (same_self A2 A3 c2 c3 _ _ hT2 hT3 (by omega)).mono ?_
          rintro e w6 ⟨rfl, q6, rfl⟩
          go_wp2_with fail
          refine (same_self A4 A5 c4 c5 _ _ (hT4.advD q6) (hS5.advD q6) (by omega)).mono ?_
          rintro e w7 ⟨rfl, q7, rfl⟩
          go_wp2_with fail
          refine (awake_any _).mono ?_
          rintro e w8 ⟨rfl, hb8⟩
          go_wp2
          go_ret
          exact ⟨rfl, bel_adv (below_drewN hbel5 (q6 + q7)) hb8⟩
        · have hlt := hr rfl
          clear hr
          go_wp2_with fail
          refine (code_any w.heap.size (4 * k) _ (by omega) hdk).mono ?_
          rintro e w2 ⟨s2, rfl, hs2, hd2, hg2⟩
          go_wp2_with fail
          refine (amount_any w.heap.size (4 * k + 1) _ (by omega) hd2).mono ?_
          rintro e w3 ⟨r3, rfl, ha3, hb3, hd3, hg3⟩
          go_wp2_with fail
          have hP := SliceOf.new encI_len w3 [1, -1] _ 3 rfl
          refine (pick_any w.heap.size (4 * k + 1 + 2) _ _ [1, -1] _ (by omega) (hd3.alloc _) (by simp) (by simp) (hP.more (by simp)) (by intro a ha; injection ha with ha; subst ha; have := hd3.lt; simp; omega)).mono ?_
          rintro e w4 ⟨r4, rfl, hr4, hd4, hg4⟩
          have hr4' : r4 = 1 ∨ r4 = -1 := by simpa using hr4
          have hlt4 := hd4.lt
          have hg : wc.grownBy w4 (some w.heap.size) := only_trans (only_alloc (only_trans hg2 hg3) _) hg4
          have hown4 := hown.kept hg (by intro g e; injection e; omega)
          have hbel4 := bel_only hbel hg (fun g e => by injection e; omega)
          have hs4 : w.heap.size + 1 ≤ w4.heap.size := hlt4
          have hr7 := fun q hq => (hown4.block_lt (g := q) hq).1
          have HS2 := Lib.hid hs2
          clear hd2 hd3 hdk hg2 hg3 hg4 hP hown hbel hr4 hs2 hg
          rcases hr4' with rfl | rfl
          all_goals
            go_wp2_with (at_builtin; (refine wpList_append_one _ _ 38 ⟨s2, _⟩ _ 24 _ infoE Try.underlying38 hown4 encE_len (by omega) rfl (encE_one _) (by omega) (by omega) hs4 (by rfl) (by rfl) (by rfl) (by rfl) (by simp) (by rfl) ?_); intro v2 w6 hown6 hg6)
            go_roundw
            case rel =>
              have hfin : ∃ (k' : Nat) (es' : List Elem), k' ≤ 12 ∧ Value.int .i64 ((k : Int) + 1) = .int .i64 k' ∧ es'.length ≤ k' ∧ SmallE es' ∧ Own encE 2 44 w6 (w.heap.size + 1) v2 es' ∧ DeckIn w6 w.heap.size (4 * k') ∧ Below w.heap.size w w6 :=
                ⟨k + 1, _, by omega, by go_num, by simp; omega, HSM.out.snoc HS2.out, hown6, (hd4.grown hg6 (fun q e => by have := hr7 q e; omega)).mono (by omega), bel_only hbel4 hg6 (fun q e => by have := hr7 q e; omega)⟩
              first | exact hfin | ((repeat apply Exists.intro); exact ⟨hfin, rfl⟩)
            case measure => simp [intOf]; omega
  · have hsh' : shortEB xs = false := by simpa using hsh
    clear hsh
    go_enter Try.func5, Try.ntmps5
    go_wp2_with (go_at_call 19; refine (shortE_any A cap xs _ _ h hl).mono ?_; rintro e w' ⟨rfl, rfl⟩)
    refine (awake_any _).mono ?_
    rintro e w5 ⟨rfl, hb5⟩
    go_wp2
    go_ret
    exact ⟨rfl, hb5⟩

end Go.Proofs.Ytlfefcfddpmccaa
