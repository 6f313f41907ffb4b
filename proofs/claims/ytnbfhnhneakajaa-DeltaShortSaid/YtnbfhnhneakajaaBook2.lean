/- Contracts of book.Add, merged and Result, for books that are valid. Conditions: as stated. -/
import Derived.Test.YtnbfhnhneakajaaBook
import Derived.OwnWalk
namespace Go.Proofs.Ytnbfhnhneakajaa
open Go.RowKit

def Asc (xs : List PostT) : Prop := ∀ i, (hi : i + 1 < xs.length) → xs[i].run ≤ xs[i + 1].run

set_option maxRecDepth 100000 in
set_option maxHeartbeats 1000000 in
theorem add_yes (A B : Option Addr) (c d : Nat) (xs ys : List PostT) (w : World) (h : SliceOf encP 6 w w.heap.size A xs) (hy : SliceOf encP 6 w w.heap.size B ys) (hl : xs.length + ys.length ≤ 65536)
    (ha : Asc xs) (hav : Asc (xs ++ ys)) (hv : ∀ x ∈ xs, PostOk x) (hvy : ∀ x ∈ ys, PostOk x) :
    Calls Try.prog 31 #[.slice A xs.length c, .slice B ys.length d] w fun e w' => ∃ v, e = .returned (.tuple #[v, .int .i64 0]) ∧ Own encP 6 58 w' w.heap.size v (xs ++ ys) ∧ Below w.heap.size w w' := by
  have HA := Lib.hid ha
  have HAV := Lib.hid hav
  have HV := Lib.hid hv
  have HVY := Lib.hid hvy
  clear ha hav hv hvy
  go_enter Try.func31, Try.ntmps31
  go_wp2_with fail
  refine (book_yes A c xs _ h (by omega) HA.out HV.out).mono ?_
  rintro e w1 ⟨rfl, hb1⟩
  go_wp2_with fail
  refine (bvalids_yes B d ys _ (hy.adv hb1) (by omega) HVY.out).mono ?_
  rintro e w2 ⟨rfl, hb2⟩
  have hbel2 : Below w.heap.size w w2 := bel_adv hb1 hb2
  have hx2 := h.adv hbel2
  have hy2 := hy.adv hbel2
  have hs2 := hbel2.size
  clear h hy hb1 hb2
  obtain ⟨i, hi, hz, hsz, hib⟩ := info_parts infoP
  have hib2 : i.bytes * (xs.length + ys.length) ≤ 281474976710656 := by rw [hib]; omega
  have HI := Lib.hid hi
  have HZ := Lib.hid hz
  have HSZ := Lib.hid hsz
  clear hi hz hsz hib
  go_wp2_with (first
    | (at_make; refine wpList_make_own _ rfl _ _ 30 rfl w2.heap.size 58 i _ 6 Try.underlying30 HI.out HZ.out HSZ.out .i64 .i64 _ (xs.length + ys.length) rfl rfl (by omega) hib2 (by unfold maxLen; omega) (Nat.le_refl _) ?_; intro w3 hown3 hg3; (have hown3' : Own encP 6 58 w3 w2.heap.size (.slice (some ⟨w2.heap.size, 0, none⟩) 0 (xs.length + ys.length)) ([] : List PostT) := hown3); (have hb23 : Below w2.heap.size w2 w3 := only_below hg3 (Nat.le_refl _) (fun g e => by cases e)); (have hs3 := hb23.size); (have hx3 := hx2.below hb23); clear hown3 hg3)
    | (at_builtin; (refine wpList_append_list (ys := ys) _ _ 30 _ 56 _ infoP Try.underlying30 hown4' hy4 encP_len (by omega) rfl encP_one (by omega) (by omega) (by omega) (by rfl) (by rfl) (by rfl) (by rfl) (by rfl) ?_); intro v5 w5 hown5 hg5; (have hb45 := hown4'.below_of hg5 (by omega)))
    | (at_builtin; (refine wpList_append_list (ys := xs) _ _ 30 _ 56 _ infoP Try.underlying30 hown3' hx3 encP_len (by omega) rfl encP_one (by simp; omega) (by omega) hs3 (by rfl) (by rfl) (by rfl) (by rfl) (by rfl) ?_); intro v4 w4 hown4 hg4; (have hb34 := hown3'.below_of hg4 hs3); (have hs4 := hb34.size); (have hy4 := (hy2.below hb23).below hb34); (have hown4' : Own encP 6 58 w4 w2.heap.size v4 xs := hown4); clear hown4 hg4))
  have hb25 := (hb23.trans hb34).trans hb45
  have hbel5 := bel_adv hbel2 hb25
  have hb5s := hb25.size
  clear hg5 hb23 hb34 hb45 hy4 hb25 hbel2 hown4' hown3' hx3
  have HO5 := Lib.hid hown5
  obtain ⟨A5, c5, rfl, hS5, hB5, hlc5, hcm5⟩ := hown5.form2 encP_len
  clear hown5 hB5
  have hle : (xs ++ ys).length ≤ 9223372036854775806 := by simp; omega
  generalize hzs : xs ++ ys = zs at *
  have HZS := Lib.hid hzs
  clear hzs
  go_wp2_with fail
  refine (ascending_yes A5 c5 zs _ hS5 hle HAV.out).mono ?_
  rintro e w6 ⟨rfl, q6, rfl⟩
  go_wp2
  go_ret2
  exact ⟨.slice A5 zs.length c5, rfl, by rw [HZS.out]; exact (HO5.out.drewN q6).weaken hs2, below_drewN hbel5 q6⟩

/-- Every posting is of employee 1 and period 0, as Result's closure asks. -/
theorem result_clo (p : PostT) (g : Nat) (em pe : Int) (w : World) (he : Blk w g 3 #[.int .i64 em]) (hp : Blk w (g + 1) 3 #[.int .i64 pe]) (h1 : p.employee = em) (h2 : p.period = pe) :
    Calls Try.prog 49 #[aggP p, .pointer (some ⟨g, 0, none⟩), .pointer (some ⟨g + 1, 0, none⟩)] w fun e w' => e = .returned (.bool true) ∧ Below w.heap.size w w' := by
  have c0 := he.cell 0
  have c1 := hp.cell 0
  have l0 := he.lt
  have l1 := hp.lt
  have t1 : (p.employee == em) = true := by simp [h1]
  have t2 : (p.period == pe) = true := by simp [h2]
  clear h1 h2
  unfold aggP
  go_enter Try.func49, Try.ntmps49
  go_wp2
  go_ret
  exact ⟨rfl, below_new w _⟩

def linesOf (xs : List PostT) : List LineT := xs.map (·.line)
theorem linesOf_take (xs : List PostT) (k : Nat) (h : k < xs.length) : linesOf (xs.take (k + 1)) = linesOf (xs.take k) ++ [xs[k].line] := by
  rw [linesOf, linesOf, List.take_succ_eq_append_getElem h, List.map_append]; rfl

set_option maxRecDepth 100000 in
set_option maxHeartbeats 2000000 in
theorem merged_yes (A : Option Addr) (c g : Nat) (em pe : Int) (xs : List PostT) (w : World) (h : SliceOf encP 6 w w.heap.size A xs) (hl : xs.length ≤ 65536)
    (ha : Asc xs) (hv : ∀ x ∈ xs, PostOk x) (hsel : ∀ x ∈ xs, x.employee = em ∧ x.period = pe) (hme : mErr (linesOf xs) = 0) (he : Blk w g 3 #[.int .i64 em]) (hp : Blk w (g + 1) 3 #[.int .i64 pe]) :
    Calls Try.prog 48 #[.slice A xs.length c, .func (.func 49) #[] #[.pointer (some ⟨g, 0, none⟩), .pointer (some ⟨g + 1, 0, none⟩)]] w fun e w' => ∃ B d, e = .returned (.slice B (mR (linesOf xs)).length d) ∧ SliceOf encL 3 w' w'.heap.size B (mR (linesOf xs)) ∧ Below w.heap.size w w' := by
  have HA := Lib.hid ha
  have HV := Lib.hid hv
  have HS := Lib.hid hsel
  have HM := Lib.hid hme
  clear ha hv hsel hme
  go_enter Try.func48, Try.ntmps48
  go_wp2_with fail
  refine (book_yes A c xs _ h (by omega) HA.out HV.out).mono ?_
  rintro e w1 ⟨rfl, hb1⟩
  go_wp2
  go_loopw [5, 15] (fun v i wr => ∃ k : Nat, i = .int .i64 k ∧ k ≤ xs.length ∧ Own encL 3 56 wr w.heap.size v (linesOf (xs.take k)) ∧ Below w.heap.size w wr) (fun _ i _ => xs.length - (intOf i).toNat)
  case atStart => exact ⟨0, rfl, by omega, Own.nil_ _ _, hb1⟩
  case round =>
    obtain ⟨k, rfl, hkl, hown, hbel⟩ := hrel
    have hbs := hbel.size
    by_cases hlt : k < xs.length
    · obtain ⟨b, off, rfl, hb, hc⟩ := (h.below hbel).at_ hlt
      have c0 := hc 0 _ rfl
      have c1 := hc 1 _ rfl
      have c2 := hc 2 _ rfl
      have c3 := hc 3 _ rfl
      have c4 := hc 4 _ rfl
      have c5 := hc 5 _ rfl
      simp only [Nat.add_zero] at c0
      clear hc
      have hok := HS.out _ (List.getElem_mem hlt)
      have HOK := Lib.hid hok
      clear hok
      have hfl : (linesOf (xs.take k)).length < 4294967296 := by simp [linesOf]; omega
      have HT := Lib.hid (linesOf_take xs k hlt)
      have hB1 := (he.below hbel he.lt).alloc
      have hB2 := (hp.below hbel hp.lt).alloc
      go_wp2_with fail
      refine (result_clo xs[k] g em pe _ (hB1 _) (hB2 _) HOK.out.1 HOK.out.2).mono ?_
      rintro e w2 ⟨rfl, hb2⟩
      have hN := (Blk.new wr _ _).adv hb2
      have z0 := hN.cell 0
      have z1 := hN.cell 1
      have z2 := hN.cell 2
      have z3 := hN.cell 3
      have z4 := hN.cell 4
      have z5 := hN.cell 5
      simp only [List.getElem?_toArray, List.getElem?_cons_zero, List.getElem?_cons_succ] at z0 z1 z2 z3 z4 z5
      have hlN := hN.lt
      have hbel2 := bel_adv (bel_alloc hbel _) hb2
      have hown2 := (Own.alloc hown _).adv hb2
      have hbs2 := hbel2.size
      clear hN hb2 hown hB1 hB2 c0 c1 c2 c3 c4 c5 he hp h
      go_wp2_with (at_builtin; (refine wpList_append_one _ _ 23 xs[k].line _ 32 _ infoL Try.underlying23 hown2 encL_len (by omega) rfl (encL_one _) hfl (by omega) hbs2 (by rfl) (by rfl) (by rfl) (by rfl) (by simp) (by rfl) ?_); intro v2 w6 hown7 hg7)
      have hr6 := fun q hq => (hown2.block_lt (g := q) hq).1
      have hb7 : Below w.heap.size w w6 := bel_only hbel2 hg7 (fun g e => hr6 g e)
      go_roundw
      case rel => exact ⟨k + 1, by go_num, by omega, by rw [HT.out]; exact hown7, hb7⟩
      case measure => simp [intOf]; omega
    · have ek : xs.take k = xs := List.take_of_length_le (by omega)
      rw [ek] at hown
      clear ek
      obtain ⟨A5, c5, rfl, hS5, hB5, hlc5, hcm5⟩ := hown.form2 encL_len
      have hz : Hid (∀ x ∈ linesOf xs, x.code.size ≤ maxLen) := fun x hx => by
        obtain ⟨y, hy, rfl⟩ := List.mem_map.1 hx
        exact (HV.out y hy).code
      have hll : (linesOf xs).length ≤ 65536 := by simp [linesOf]; omega
      generalize hls : linesOf xs = ls at *
      have HLS := Lib.hid hls
      clear hls
      go_wp2_with fail
      refine (mergeP_any A5 c5 ls _ hS5 hz.out (by omega)).mono ?_
      rintro e w8 ⟨A8, c8, rfl, hS8, hc8, hcm8, hb8⟩
      rw [HM.out]
      go_wp2
      go_ret
      exact ⟨A8, c8, by rw [HLS.out]; rfl, by rw [HLS.out]; exact hS8, bel_adv hbel hb8⟩

set_option maxHeartbeats 1000000 in
theorem result_yes (A : Option Addr) (c : Nat) (xs : List PostT) (w : World) (h : SliceOf encP 6 w w.heap.size A xs) (hl : xs.length ≤ 65536)
    (ha : Asc xs) (hv : ∀ x ∈ xs, PostOk x) (hsel : ∀ x ∈ xs, x.employee = 1 ∧ x.period = 0) (hme : mErr (linesOf xs) = 0) :
    Calls Try.prog 33 #[.slice A xs.length c, .int .i64 1, .int .i64 0] w fun e w' => ∃ B d, e = .returned (.slice B (mR (linesOf xs)).length d) ∧ SliceOf encL 3 w' w'.heap.size B (mR (linesOf xs)) ∧ Below w.heap.size w w' := by
  have HA := Lib.hid ha
  have HV := Lib.hid hv
  have HS := Lib.hid hsel
  have HM := Lib.hid hme
  clear ha hv hsel hme
  have hsz : (w.alloc (.cells #[.int .i64 1] 3)).heap.size = w.heap.size + 1 := by show (w.heap.push _).size = _; simp
  have hp : Blk ((w.alloc (.cells #[.int .i64 1] 3)).alloc (.cells #[.int .i64 0] 3)) (w.heap.size + 1) 3 #[.int .i64 0] := by
    have := Blk.new (w.alloc (.cells #[.int .i64 1] 3)) 3 #[.int .i64 0]
    rw [hsz] at this
    exact this
  have HP := Lib.hid hp
  clear hp hsz
  go_enter Try.func33, Try.ntmps33
  go_wp2_with fail
  refine (merged_yes A c w.heap.size 1 0 xs _ ((h.advA _).advA _) hl HA.out HV.out HS.out HM.out ((Blk.new w _ _).alloc _) HP.out).mono ?_
  rintro e w2 ⟨B, d, rfl, hS2, hb2⟩
  go_wp2
  go_ret
  exact ⟨B, d, rfl, hS2, bel_adv (bel_alloc (below_new w _) _) hb2⟩

end Go.Proofs.Ytnbfhnhneakajaa
