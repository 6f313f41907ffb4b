/- Contract of ledger.Merge: it hands back mRB and mErrB. Conditions: the slice's length fits an int. -/
import Derived.Test.YtbiajkknpkeeoaaTitleB
import Derived.Test.YtbiajkknpkeeoaaSortB
import Derived.RegionTactic
import Derived.BigRegion
namespace Go.Proofs.Ytbiajkknpkeeoaa
open Go.RowKit Go.Sort Go.Shelf Go.Maps Go.WideMaps Go.WideElems Go.ChangeMaps

theorem zeroI (w : World) : (zeroValue 3).run Try.prog w = .ok (.int .i64 0) w := by kernel_rfl
theorem keyedB : Keyed Try.prog 42 := Keyed.of_law lawB
abbrev mkB (c : KeyB) : Value := .agg #[.int .i64 c.1, .int .i64 c.2.1, .int .i64 c.2.2]
/-- A list of entries and an error number are handed back. -/
def BPost (m : List BookT) (er : Int) (w : World) (e : Ending) (w' : World) : Prop :=
  ∃ A cap, e = .returned (.tuple #[.slice A m.length cap, .int .i64 er]) ∧ SliceOf encB 3 w' w'.heap.size A m ∧ m.length ≤ cap ∧ cap ≤ maxLen ∧ Below w.heap.size w w'
theorem BPost.fail {m : List BookT} {er n : Int} {w W : World} (hm : m = []) (he : er = n) (hb : Below w.heap.size w W) : BPost m er w (.returned (.tuple #[.slice none 0 0, .int .i64 n])) W := by
  subst hm he
  exact ⟨none, 0, rfl, SliceOf.nil_, by simp, by unfold maxLen; omega, hb⟩

set_option maxHeartbeats 1000000 in
theorem total_any (n : Int) (w : World) : Calls Try.prog 40 #[.int .i64 n] w fun e w' => e = .returned (.bool (maxN n)) ∧ w = w' := by
  by_cases h1 : -1000000000000 ≤ n <;> by_cases h2 : n ≤ 1000000000000
  all_goals
    have hb : maxN n = (decide (-1000000000000 ≤ n) && decide (n ≤ 1000000000000)) := by simp [maxN]
    have HB := Lib.hid hb; clear hb
    go_enter Try.func40, Try.ntmps40
    go_wp2
    go_ret
    exact ⟨by rw [HB.out]; simp [h1, h2], rfl⟩
set_option maxHeartbeats 2000000 in
theorem validB_any (x : BookT) (w : World) : Calls Try.prog 39 #[.agg #[.int .i64 x.run, .int .i64 x.account, .int .i64 x.amount]] w fun e w' => e = .returned (.bool (okB x)) ∧ Below w.heap.size w w' := by
  have HB : Hid (okB x = ((decide (0 ≤ x.run) && decide (x.run ≤ 256)) && (decide (100 ≤ x.account) && decide (x.account ≤ 9999)) && maxN x.amount)) := rfl
  by_cases c0 : 0 ≤ x.run
  rotate_left
  · have HF : Hid (okB x = false) := by rw [Hid, HB.out]; simp [*]
    go_enter Try.func39, Try.ntmps39
    go_wp2
    go_ret
    exact ⟨by rw [HF.out]; rfl, below_new _ _⟩
  by_cases c1 : x.run ≤ 256
  rotate_left
  · have HF : Hid (okB x = false) := by rw [Hid, HB.out]; simp [*]
    go_enter Try.func39, Try.ntmps39
    go_wp2
    go_ret
    exact ⟨by rw [HF.out]; rfl, below_new _ _⟩
  by_cases c2 : 100 ≤ x.account
  rotate_left
  · have HF : Hid (okB x = false) := by rw [Hid, HB.out]; simp [*]
    go_enter Try.func39, Try.ntmps39
    go_wp2
    go_ret
    exact ⟨by rw [HF.out]; rfl, below_new _ _⟩
  by_cases c3 : x.account ≤ 9999
  rotate_left
  · have HF : Hid (okB x = false) := by rw [Hid, HB.out]; simp [*]
    go_enter Try.func39, Try.ntmps39
    go_wp2
    go_ret
    exact ⟨by rw [HF.out]; rfl, below_new _ _⟩
  skip
  have HF : Hid (okB x = maxN x.amount) := by rw [Hid, HB.out]; simp [*]
  go_enter Try.func39, Try.ntmps39
  go_wp2_with (go_at_call 40; refine (total_any _ _).mono ?_; rintro e w' ⟨rfl, rfl⟩)
  go_ret
  exact ⟨by rw [HF.out]; rfl, below_new _ _⟩

theorem goodB_of {x : BookT} (h : okB x = true) : goodB (RB.key x) := by
  obtain ⟨⟨h1, h2⟩, ⟨h3, h4⟩, _⟩ := (okB_iff x).1 h
  exact ⟨wf64 (by show _ ≤ x.run; omega) (by show x.run ≤ _; omega), wf64 (by show _ ≤ x.account; omega) (by show x.account ≤ _; omega), wf64 (by show _ ≤ (0 : Int); omega) (by show (0 : Int) ≤ _; omega)⟩
theorem hasB_good {xs : List BookT} (h : ∀ x ∈ xs, okB x = true) : ∀ c, RB.has xs c = true → goodB c := fun c hc => by
  obtain ⟨x, hx, e⟩ := List.any_eq_true.1 hc
  have e' : RB.key x = c := by simpa using e
  rw [← e']
  exact goodB_of (h x hx)
theorem hasB_zero {xs : List BookT} {c : KeyB} (h : RB.has xs c = true) : c.2.2 = 0 := by
  obtain ⟨x, hx, e⟩ := List.any_eq_true.1 h
  have e' : RB.key x = c := by simpa using e
  rw [← e']; rfl

set_option maxRecDepth 100000 in
set_option maxHeartbeats 4000000 in
theorem mergeB_any (A : Option Addr) (cap : Nat) (xs : List BookT) (w : World) (h : SliceOf encB 3 w w.heap.size A xs) (hl : xs.length ≤ 9223372036854775806) :
    Calls Try.prog 18 #[.slice A xs.length cap] w (BPost (mRB xs) (mErrB xs) w) := by
  have hmm := @run_makeMap Try.prog
  by_cases hlen : 131072 < xs.length
  · have HP := Lib.hid (mErrB_3 hlen)
    go_enter Try.func18, Try.ntmps18
    go_wp2
    go_ret2
    exact BPost.fail (mRB_no HP.out (by omega)) HP.out (Below.refl _ _)
  · have hlen' : xs.length ≤ 131072 := by omega
    clear hlen hl
    go_enter Try.func18, Try.ntmps18
    go_wp2
    have hmap0 : (w.alloc (.map #[] 0)).ownsMap Try.prog 42 (plainElem (H := Unit) Try.prog 3) w.heap.size 0 (.map []) := World.ownsMap_made _ _ _ _
    have hbel0 : Below w.heap.size w (w.alloc (.map #[] 0)) := below_new _ _
    go_loopw [16] (fun i wr => ∃ (k : Nat) (D : DataW Unit), k ≤ xs.length ∧ i = .int .i64 k ∧ Hid (∀ x ∈ xs.take k, okB x = true) ∧ wr.ownsMap Try.prog 42 (plainElem (H := Unit) Try.prog 3) w.heap.size k D ∧ MapG litB goodB D (RB.has (xs.take k)) (RB.tot (xs.take k)) ∧ Below w.heap.size w wr) (fun i _ => xs.length - (intOf i).toNat)
    case atStart => exact ⟨0, .map [], by omega, rfl, (fun x hx => by simp at hx), hmap0, MapG.empty, hbel0⟩
    case round =>
      clear hmap0 hbel0
      obtain ⟨k, D, hk, rfl, hall, hown, hD, hbel⟩ := hrel
      have hbs := hbel.size
      have hml := hown.lt
      by_cases hlt : k < xs.length
      · obtain ⟨b, off, rfl, hb, hc⟩ := (h.below hbel).at_ hlt
        have c0 := hc 0 _ rfl
        have c1 := hc 1 _ rfl
        have c2 := hc 2 _ rfl
        simp only [Nat.add_zero] at c0
        clear hc
        go_wp2_with fail
        refine (validB_any xs[k] _).mono ?_
        rintro e w1 ⟨rfl, hb1⟩
        have hB1 := (Blk.new wr _ _).adv hb1
        have hown1 := (hown.alloc (Obj.cells #[.int .i64 xs[k].run, .int .i64 xs[k].account, .int .i64 xs[k].amount] 42)).kept (only_of_below hb1 none) (by simp)
        have hbel1 := bel_adv (bel_alloc hbel _) hb1
        clear hb1 hown
        rcases hf : okB xs[k] with _ | _
        · have HP := Lib.hid (mErrB_2 (l := xs) (by omega) (by rw [List.all_eq_false]; exact ⟨xs[k], List.getElem_mem _, by simp [hf]⟩))
          clear hf
          go_wp2
          go_ret2
          exact BPost.fail (mRB_no HP.out (by omega)) HP.out hbel1
        · obtain ⟨_, _, ha1, ha2⟩ := (okB_iff _).1 hf
          have hgd := goodB_of hf
          have hall1 : ∀ x ∈ xs.take (k + 1), okB x = true := by
            intro x hx
            rw [List.take_succ_eq_append_getElem hlt] at hx
            rcases List.mem_append.1 hx with hx | hx
            · exact hall.out x hx
            · simp at hx; subst hx; exact hf
          have HALL := Lib.hid hall1
          have hTb := Rec.tot_bd (R := RB) (xs.take k) (RB.key xs[k]) 1000000000000 (by omega) (fun x hx => ((okB_iff x).1 (hall.out x hx)).2.2)
          have hTl : (xs.take k).length ≤ 131072 := by simp; omega
          have hT1 : -200000000000000000 ≤ RB.tot (xs.take k) (RB.key xs[k]) := by omega
          have hT2 : RB.tot (xs.take k) (RB.key xs[k]) ≤ 200000000000000000 := by omega
          have hkey : keyOf Try.prog 42 (.agg #[.int .i64 xs[k].run, .int .i64 xs[k].account, .int .i64 0]) = some (litB (RB.key xs[k])) := keyB _ hgd
          obtain ⟨c, st, w3, hlk, hat, hwc, hme, hlk3, hg3, hst⟩ := entry_own lawB Try.underlying70 Try.underlying3 zeroI hown1.drew (by unfold maxLen; omega) hD.isMap hkey
          obtain rfl : c = RB.tot (xs.take k) (RB.key xs[k]) := by
            have h1 := hD.at_ _ hgd
            rw [hat] at h1
            injection h1 with h1
            injection h1
          obtain ⟨w4, hes, hown4, hg4⟩ := hst (RB.tot (xs.take k) (RB.key xs[k]) + xs[k].amount) (wf64 (by omega) (by omega))
          have hD1 := hD.put_ (K' := RB.has (xs.take (k + 1))) (T' := RB.tot (xs.take (k + 1))) keyGB (RB.key xs[k]) hgd (RB.tot (xs.take k) (RB.key xs[k]) + xs[k].amount) (Rec.has_take xs k hlt) (fun c => by
            rw [Rec.tot_take xs k hlt]
            split
            · rename_i e; rw [← e]; rfl
            · omega)
          have HD1 := Lib.hid hD1
          have hB3 : Blk w3 wr.heap.size 42 #[.int .i64 xs[k].run, .int .i64 xs[k].account, .int .i64 xs[k].amount] := Blk.grown (w := w1.drew) hB1 hg3 (by intro e; injection e; omega)
          have hbel4 : Below w.heap.size w w4 := bel_only (below_drewN hbel1 1) hg4 (fun g e => by injection e; omega)
          have e0 := hB1.cell 0
          have e1 := hB1.cell 1
          have e2 := hB1.cell 2
          simp only [List.getElem?_toArray, List.getElem?_cons_zero, List.getElem?_cons_succ] at e0 e1 e2
          have d0 := hB3.cell 0
          have d1 := hB3.cell 1
          have d2 := hB3.cell 2
          simp only [List.getElem?_toArray, List.getElem?_cons_zero, List.getElem?_cons_succ] at d0 d1 d2
          have hl1 := hB1.lt
          have hl3 := hB3.lt
          generalize RB.tot (xs.take k) (RB.key xs[k]) = t0 at *
          clear hD hD1 hall hall1 hTb hTl hat hwc hst hkey hgd hB1 hB3 hf hown1 hmm c0 c1 c2
          go_wp2
          go_big_region
          go_wp2
          go_roundw
          case rel => exact ⟨k + 1, _, by omega, by go_num, HALL, hown4, HD1.out, hbel4⟩
          case measure => simp [intOf]; omega
      · obtain rfl : k = xs.length := by omega
        have hg0 : decide ((xs.length : Int) < (xs.length : Int)) = false := by simp
        have hg1 : decide (xs.length < xs.length) = false := by simp
        rw [List.take_length] at hD hall
        have hallB : xs.all okB = true := List.all_eq_true.2 hall.out
        have HM := Lib.hid (mErrB_4 (l := xs) (by omega) hallB)
        have HKG := Lib.hid (hasB_good hall.out)
        obtain ⟨wq, rfl⟩ : ∃ wq : World, wq = wr := ⟨_, rfl⟩
        clear hallB hk hlt hall
        have hsize : Maps.size D ≤ xs.length := by
          obtain ⟨es, clock, _, _, hn', rfl⟩ := hown
          rw [Maps.size_eq, length_insertAll]
          simpa using hn'
        go_wp2_with (at_range; refine wpList_range_own _ (by rfl) _ 70 (by rfl) 42 3 keyedB Try.underlying70 (plainElem (H := Unit) Try.prog 3) w.heap.size xs.length D (by rfl) hown ?_; intro w0 hrg0 hg0' hs0)
        go_frame
        go_loopw [7] (fun v wr => ∃ left cnt ys, wr.ranges Try.prog 42 (plainElem (H := Unit) Try.prog 3) w.heap.size wq.heap.size xs.length D left cnt ∧ Own encB 3 42 wr (wq.heap.size + 1) v ys ∧ ColG RB litB goodB maxN (RB.has xs) (RB.tot xs) left ys ∧ ys.length + cnt ≤ xs.length ∧ Below wq.heap.size wq wr) (fun _ wr => wr.rangeLeft w.heap.size wq.heap.size)
        case atStart => exact ⟨_, _, [], hrg0, Own.nil_ _ _, ColG.start hD, by simpa using hsize, only_below hg0' (Nat.le_refl _) (by simp)⟩
        case round =>
          have HD := Lib.hid hD
          clear hown hD hsize hrg0 hg0' hs0
          obtain ⟨left, cnt, ys, hrg, hrow, hcol, hlen, hbelq⟩ := hrel
          have hbs := hbelq.size
          have hrs := hrg.lt
          go_wp2_with (at_next; refine wpList_next_ranges _ (by rfl) _ (by rfl) 42 keyedB (plainElem (H := Unit) Try.prog 3) mkB (Value.int .i64) (fun key kl hk => by obtain ⟨c, hx, _⟩ := keyB_inv hk; exact ⟨c, hx⟩) (fun v y hv => by obtain ⟨c, hc, _⟩ := plainElem_int_inv Try.underlying3 hv; exact ⟨c, hc⟩) w.heap.size wq.heap.size xs.length _ _ _ (by rfl) hrg ?_ ?_)
          · intro hc0 hl0
            obtain ⟨A5, c5, rfl, hS5, hB5, hlc5, hcm5⟩ := hrow.form2 encB_len
            go_wp2_with fail
            refine (sortB_any A5 c5 (wq.heap.size + 1) ys _ hrow (by omega)).mono ?_
            rintro e w1 ⟨rfl, zs, hp, hsd, hSz, hb1⟩
            have hlz := hp.length_eq
            obtain ⟨f1, f2, f3⟩ := hcol.done RB_law hl0 HKG.out hp hsd
            have hO : overB (RB.sums xs) = false := by
              cases hh : overB (RB.sums xs)
              · rfl
              · obtain ⟨c, hc1, hc2⟩ := (Rec.any_iff RB_law maxN (Rec.sums_sorted RB_law xs)).1 hh
                rw [Rec.sums_has RB_law] at hc1
                rw [Rec.sums_tot RB_law, f1 c hc1] at hc2
                cases hc2
            have HP : Hid (mErrB xs = 0) := by rw [Hid, HM.out, hO]; rfl
            have HR : Hid (mRB xs = zs) := by
              rw [Hid, mRB_ok HP.out]
              exact (Rec.filtered_eq RB_law (Rec.sums_sorted RB_law xs) f2 (fun x => by rw [Rec.sums_has RB_law, Rec.sums_tot RB_law]; exact f3 x)).symm
            have HLZ := Lib.hid hlz
            clear f1 f2 f3 hO hlz hp hsd
            go_wp2
            go_ret2
            rw [HR.out, HP.out]
            exact ⟨A5, c5, by rw [HLZ.out]; rfl, hSz, by have := HLZ.out; omega, hcm5, bel_adv hbel (hbelq.trans (hb1.mono (by omega)))⟩
          · intro ka kb km c kl yd yp w2 cnt2 hkey hlk hv hat hrg2 hlt hg2 hs2 hen
            obtain ⟨kc, hx', hgd, rfl⟩ := keyB_inv hkey
            obtain ⟨ka', kb', km'⟩ := kc
            obtain ⟨hx1, hx2, hx3⟩ := agg3_inj hx'
            injection hx1 with _ hx1
            injection hx2 with _ hx2
            injection hx3 with _ hx3
            simp only at hx1 hx2 hx3
            subst hx1 hx2 hx3
            have hyd : yd = i64L c := by
              obtain ⟨c', h1, h2, _⟩ := plainElem_int_inv Try.underlying3 hv
              injection h1 with _ h1
              subst h1
              injection h2
            have hKs : RB.has xs (ka, kb, km) = true := by rw [← HD.out.has _ hgd]; exact has_true_of_atKey hat
            have hkm : km = 0 := hasB_zero hKs
            subst hkm
            have hTs : RB.tot xs (ka, kb, 0) = c := by
              have h1 := HD.out.at_ _ hgd
              rw [hat, hyd] at h1
              injection h1 with h1
              injection h1 with _ h1
              exact h1.symm
            have hrow2 := hrow.kept hg2 (by intro g e; injection e; omega)
            have hbel2 : Below wq.heap.size wq w2 := bel_only hbelq hg2 (by intro g e; injection e; omega)
            have hbs2 := hbel2.size
            have hrs2 := hrg2.lt
            have HT := Lib.hid hTs
            have HGD := Lib.hid hgd
            have hgA := World.grownBy_alloc w2 (Obj.cells #[Value.int IntKind.i64 ka, Value.int IntKind.i64 kb, Value.int IntKind.i64 0] 42) none
            have hrg3 := hrg2.kept hgA (by simp) (by simp)
            have hrow3 := hrow2.alloc (Obj.cells #[Value.int IntKind.i64 ka, Value.int IntKind.i64 kb, Value.int IntKind.i64 0] 42)
            have hbel3 := bel_alloc hbel2 (Obj.cells #[Value.int IntKind.i64 ka, Value.int IntKind.i64 kb, Value.int IntKind.i64 0] 42)
            clear hs2 hat hkey hx' hv hyd hTs hgd
            by_cases ha : maxN c = true
            · have HST := Lib.hid (hcol.step keyGB HGD.out hlk hKs HT.out ha)
              by_cases hc0 : c = 0
              · have hn0 : (c != 0) = false := by simp [hc0]
                have hn1 : (c == 0) = true := by simp [hc0]
                have hcol2 := HST.out.2 hc0
                clear hc0
                go_wp2_with (go_at_call 40; refine (total_any _ _).mono ?_; rintro e w' ⟨rfl, rfl⟩)
                go_roundw
                case rel =>
                  have hf : ∃ left cnt ys, (w2.alloc (Obj.cells #[Value.int IntKind.i64 ka, Value.int IntKind.i64 kb, Value.int IntKind.i64 0] 42)).ranges Try.prog 42 (plainElem (H := Unit) Try.prog 3) w.heap.size wq.heap.size xs.length D left cnt ∧ Own encB 3 42 (w2.alloc (Obj.cells #[Value.int IntKind.i64 ka, Value.int IntKind.i64 kb, Value.int IntKind.i64 0] 42)) (wq.heap.size + 1) u7 ys ∧ ColG RB litB goodB maxN (RB.has xs) (RB.tot xs) left ys ∧ ys.length + cnt ≤ xs.length ∧ Below wq.heap.size wq (w2.alloc (Obj.cells #[Value.int IntKind.i64 ka, Value.int IntKind.i64 kb, Value.int IntKind.i64 0] 42)) := ⟨_, _, ys, hrg3, hrow3, hcol2, by omega, hbel3⟩
                  first | exact hf | ((repeat apply Exists.intro); exact ⟨hf, rfl⟩)
                case measure => rw [hrg3.left_eq, hrg.left_eq]; omega
              · have hn0 : (c != 0) = true := by simp [hc0]
                have hn1 : (c == 0) = false := by simp [hc0]
                have hcol2 := HST.out.1 ⟨ka, kb, c⟩ rfl rfl hc0
                clear hc0
                have hgA4 := World.grownBy_alloc w2 (Obj.cells #[Value.int IntKind.i64 ka, Value.int IntKind.i64 kb, Value.int IntKind.i64 c] 42) none
                have hrg4 := hrg2.kept hgA4 (by simp) (by simp)
                have hrow4 := hrow2.alloc (Obj.cells #[Value.int IntKind.i64 ka, Value.int IntKind.i64 kb, Value.int IntKind.i64 c] 42)
                have hbel4 := bel_alloc hbel2 (Obj.cells #[Value.int IntKind.i64 ka, Value.int IntKind.i64 kb, Value.int IntKind.i64 c] 42)
                have hne : some w.heap.size ≠ u7.ownBlock := fun e => by have := (hrow4.block_lt e.symm).1; omega
                have hne2 : some wq.heap.size ≠ u7.ownBlock := fun e => by have := (hrow4.block_lt e.symm).1; omega
                have hr4 := fun g hg => (hrow4.block_lt (g := g) hg).1
                have hs4 : wq.heap.size + 1 ≤ (w2.alloc (Obj.cells #[Value.int IntKind.i64 ka, Value.int IntKind.i64 kb, Value.int IntKind.i64 c] 42)).heap.size := by simp; omega
                go_wp2_with (first | (go_at_call 40; refine (total_any _ _).mono ?_; rintro e w' ⟨rfl, rfl⟩) | (at_builtin; (refine wpList_append_one _ _ 32 ⟨ka, kb, c⟩ _ 24 _ infoB Try.underlying32 hrow4 encB_len (by omega) rfl (encB_one _) (by omega) (by omega) hs4 (by rfl) (by rfl) (by rfl) (by rfl) (by simp) (by rfl) ?_); intro v2 w6 hown7 hg7))
                go_roundw
                case rel =>
                  have hf : ∃ left cnt ys, w6.ranges Try.prog 42 (plainElem (H := Unit) Try.prog 3) w.heap.size wq.heap.size xs.length D left cnt ∧ Own encB 3 42 w6 (wq.heap.size + 1) v2 ys ∧ ColG RB litB goodB maxN (RB.has xs) (RB.tot xs) left ys ∧ ys.length + cnt ≤ xs.length ∧ Below wq.heap.size wq w6 := ⟨_, _, _, hrg4.kept hg7 hne hne2, hown7, hcol2, by simp; omega, bel_only hbel4 hg7 (fun g hg => by have := hr4 g hg; omega)⟩
                  first | exact hf | ((repeat apply Exists.intro); exact ⟨hf, rfl⟩)
                case measure => rw [(hrg4.kept hg7 hne hne2).left_eq, hrg.left_eq]; omega
            · have ha' : maxN c = false := by simpa using ha
              have HP : Hid (mErrB xs = 4) := by
                have h4 : overB (RB.sums xs) = true := (Rec.any_iff RB_law maxN (Rec.sums_sorted RB_law xs)).2 ⟨_, by rw [Rec.sums_has RB_law]; exact hKs, by rw [Rec.sums_tot RB_law, HT.out]; exact ha'⟩
                rw [Hid, HM.out, h4]; rfl
              clear ha
              go_wp2_with (go_at_call 40; refine (total_any _ _).mono ?_; rintro e w' ⟨rfl, rfl⟩)
              go_ret2
              exact BPost.fail (mRB_no HP.out (by omega)) HP.out (bel_adv hbel hbel3)

end Go.Proofs.Ytbiajkknpkeeoaa
