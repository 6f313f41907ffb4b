/- The walk of DeductionWanted: it returns true and turns nothing that was there. Conditions: as stated. -/
import Derived.Test.YtcpkdpflkjjlcaaAwake27
namespace Go.Proofs.Ytcpkdpflkjjlcaa
open Go.RowKit

set_option maxRecDepth 100000 in
set_option maxHeartbeats 4000000 in
theorem wanted_walk (x : DedT) (base taken : Int) (I : Option Addr) (icap : Nat) (l : List Int) (w : World) (hz : x.code.size ≤ maxLen) (ht : I64 taken)
    (hI : SliceOf encI 1 w w.heap.size I l) (hIl : l.length ≤ 9223372036854775807) (hIb : ∀ x ∈ l, I64 x) :
    Calls Try.prog 4 #[.agg #[.string x.code, .int .i64 x.rank, .bool x.before, .int .i64 x.amount, .int .i64 x.rate, .int .i64 x.cap], .int .i64 base, .int .i64 taken, .slice I l.length icap] w fun e w' => e = .returned (.bool true) ∧ Below w.heap.size w w' := by
  by_cases hsz : 60 < x.code.size
  · go_enter Try.func4, Try.ntmps4
    go_wp2_with fail
    refine (awake_any _).mono ?_
    rintro e w5 ⟨rfl, hb5⟩
    go_wp2
    go_ret
    exact ⟨rfl, bel_adv (bel_alloc (Below.refl _ _) _) hb5⟩
  have hI0 := hI.advA (.cells #[.string x.code, .int .i64 x.rank, .bool x.before, .int .i64 x.amount, .int .i64 x.rate, .int .i64 x.cap] 33)
  have hB0 := Blk.new w 33 #[.string x.code, .int .i64 x.rank, .bool x.before, .int .i64 x.amount, .int .i64 x.rate, .int .i64 x.cap]
  go_enter Try.func4, Try.ntmps4
  go_wp2_with fail
  have hbel0 : Below w.heap.size w (w.alloc (.cells #[.string x.code, .int .i64 x.rank, .bool x.before, .int .i64 x.amount, .int .i64 x.rate, .int .i64 x.cap] 33)) := bel_alloc (Below.refl _ _) _
  have hs0 : w.heap.size + 1 ≤ (w.alloc (Obj.cells #[.string x.code, .int .i64 x.rank, .bool x.before, .int .i64 x.amount, .int .i64 x.rate, .int .i64 x.cap] 33)).heap.size := by simp
  generalize w.alloc (Obj.cells _ _) = W at hI0 hB0 hbel0 hs0 ⊢
  refine (new_any I l icap _ hI0 hIl hIb).mono ?_
  rintro e w1 ⟨rfl, hd1, hb1⟩
  have hlt1 := hd1.lt
  have hB1 := hB0.adv hb1
  have hbel1 := bel_adv hbel0 hb1
  clear hI hI0 hIb hB0
  have hl1 := hB1.lt
  have z0 := hB1.cell 0
  have z1 := hB1.cell 1
  have z2 := hB1.cell 2
  have z3 := hB1.cell 3
  have z4 := hB1.cell 4
  have z5 := hB1.cell 5
  simp only [List.getElem?_toArray, List.getElem?_cons_zero, List.getElem?_cons_succ] at z0 z1 z2 z3 z4 z5
  go_wp2_with fail
  refine (wanted_any x base taken _ hz ht).mono ?_
  rintro e w2 ⟨rfl, hb2⟩
  have hB2 := hB1.adv hb2
  have hbel2 := bel_adv hbel1 hb2
  have hd2 := hd1.grown (only_of_below hb2 none) (by intro g e; cases e)
  have hl2 := hB2.lt
  clear z0 z1 z2 z3 z4 z5 hB1
  have z0 := hB2.cell 0
  have z1 := hB2.cell 1
  have z2 := hB2.cell 2
  have z3 := hB2.cell 3
  have z4 := hB2.cell 4
  have z5 := hB2.cell 5
  simp only [List.getElem?_toArray, List.getElem?_cons_zero, List.getElem?_cons_succ] at z0 z1 z2 z3 z4 z5
  go_wp2_with fail
  refine (wanted27_any x base taken _ hz ht).mono ?_
  rintro e w3 ⟨rfl, hb3⟩
  have hbel3 := bel_adv hbel2 hb3
  have hd3 := hd2.grown (only_of_below hb3 none) (by intro g e; cases e)
  clear z0 z1 z2 z3 z4 z5 hB2 hb2 hb3 hd1 hd2 hb1 hl1 hl2 hlt1 hbel1 hbel2
  have hlt3 := hd3.lt
  have heq1 : (wantR x base taken == wantR x base taken) = true := by simp
  have heq2 : (wantE x base taken == wantE x base taken) = true := by simp
  generalize wantR x base taken = ra at heq1 ⊢
  generalize wantE x base taken = ea at heq2 ⊢
  go_wp2_with fail
  refine (deductions_any W.heap.size 0 _ (by omega) hd3).mono ?_
  rintro e w4 ⟨v4, ds, rfl, hgd, hown4, hd4, hg4⟩
  obtain ⟨A4, c4, rfl, hS4, hB4, hlc4, hcm4⟩ := hown4.form2 encD_len
  have hbel4 : Below w.heap.size w w4 := bel_only hbel3 hg4 (fun g e => by injection e; omega)
  have HGZ := Lib.hid hgd.size
  have hdl := hgd.len
  have hs4 := hg4.size
  clear hown4 hgd hg4
  go_wp2_with fail
  go_loopw [15] (fun i wr => ∃ k : Nat, k ≤ ds.length ∧ i = .int .i64 k ∧ DeckIn wr W.heap.size (32 + 5 * k) ∧ SliceOf encD 6 wr wr.heap.size A4 ds ∧ Below w.heap.size w wr) (fun i _ => ds.length - (intOf i).toNat)
  case atStart => exact ⟨0, by omega, rfl, hd4.mono (by omega), hS4, hbel4⟩
  case round =>
    clear hd4 hS4 hbel4 hd3 hbel3
    obtain ⟨k, hk, rfl, hdk, hSk, hbelk⟩ := hrel
    have hltk := hdk.lt
    have hAb : ∀ a, A4 = some a → a.block ≠ W.heap.size := fun a ha => by have := hB4 a ha; omega
    by_cases hlt : k < ds.length
    · go_wp2_with fail
      refine (amount_any W.heap.size (32 + 5 * k) _ (by omega) hdk).mono ?_
      rintro e w5 ⟨r5, rfl, ha5, hb5, hd5, hg5⟩
      go_wp2_with fail
      refine (amount_any W.heap.size (32 + 5 * k + 2) _ (by omega) hd5).mono ?_
      rintro e w6 ⟨r6, rfl, ha6, hb6, hd6, hg6⟩
      go_wp2_with fail
      refine (pick_new W.heap.size (32 + 5 * k + 2 + 2) w6 [0, 100, 20000, 20001, r6, 1000000000000] _ _ _ rfl rfl (by omega) hd6 (by simp) (by simp)).mono ?_
      rintro e w7 ⟨r7, rfl, hm7, hd7, hg7⟩
      have hG : wr.grownBy w7 (some W.heap.size) := only_trans (only_trans hg5 hg6) hg7
      have hS7 := hSk.advG hG hAb
      have hbel7 : Below w.heap.size w w7 := bel_only hbelk hG (fun g e => by injection e; omega)
      have hr7 : I64 r7 := by
        simp at hm7
        unfold I64
        omega
      clear hm7 hd5 hd6 hg5 hg6 hg7 hG hdk hSk hbelk
      obtain ⟨b, off, rfl, hb, hc⟩ := hS7.at_ hlt
      have HC := Lib.hid hc
      have c0 := hc 0 _ rfl
      have c1 := hc 1 _ rfl
      have c2 := hc 2 _ rfl
      have c3 := hc 3 _ rfl
      have c4 := hc 4 _ rfl
      have c5 := hc 5 _ rfl
      simp only [Nat.add_zero] at c0
      clear hc
      have hzk := HGZ.out _ (List.getElem_mem hlt)
      go_wp2_with fail
      refine (wanted_any ds[k] r5 r7 _ hzk hr7).mono ?_
      rintro e w8 ⟨rfl, hb8⟩
      have hS8 := hS7.adv hb8
      have hbw8 : b < w8.heap.size := Nat.lt_of_lt_of_le hb hb8.size
      have d0 := (hb8.cell (p := ⟨b, off + k * 6, none⟩) hb).trans c0
      have d1 := (hb8.cell (p := ⟨b, off + k * 6 + 1, none⟩) hb).trans c1
      have d2 := (hb8.cell (p := ⟨b, off + k * 6 + 2, none⟩) hb).trans c2
      have d3 := (hb8.cell (p := ⟨b, off + k * 6 + 3, none⟩) hb).trans c3
      have d4 := (hb8.cell (p := ⟨b, off + k * 6 + 4, none⟩) hb).trans c4
      have d5 := (hb8.cell (p := ⟨b, off + k * 6 + 5, none⟩) hb).trans c5
      clear c0 c1 c2 c3 c4 c5
      go_wp2_with fail
      refine (wanted27_any ds[k] r5 r7 _ hzk hr7).mono ?_
      rintro e w9 ⟨rfl, hb9⟩
      have hS9 := hS8.adv hb9
      have hd9 := (hd7.grown (only_of_below hb8 none) (by intro g e; cases e)).grown (only_of_below hb9 none) (by intro g e; cases e)
      have hbel9 := bel_adv (bel_adv hbel7 hb8) hb9
      clear d0 d1 d2 d3 d4 d5 hS7 hS8 hb8 hb9 hd7 hbel7 HC
      have hn1 : (wantR ds[k] r5 r7 == wantR ds[k] r5 r7) = true := by simp
      have hn2 : (wantE ds[k] r5 r7 == wantE ds[k] r5 r7) = true := by simp
      have hn3 : (wantR ds[k] r5 r7 != wantR ds[k] r5 r7) = false := by simp
      have hn4 : (wantE ds[k] r5 r7 != wantE ds[k] r5 r7) = false := by simp
      generalize wantR ds[k] r5 r7 = rb at hn1 hn3 ⊢
      generalize wantE ds[k] r5 r7 = eb at hn2 hn4 ⊢
      go_wp2
      go_roundw
      case rel => exact ⟨k + 1, by omega, by go_num, hd9.mono (by omega), hS9, hbel9⟩
      case measure => simp [intOf]; omega
    · go_wp2_with fail
      refine (awake_any _).mono ?_
      rintro e w13 ⟨rfl, hb13⟩
      go_wp2
      go_ret
      exact ⟨rfl, bel_adv hbelk hb13⟩

end Go.Proofs.Ytcpkdpflkjjlcaa
