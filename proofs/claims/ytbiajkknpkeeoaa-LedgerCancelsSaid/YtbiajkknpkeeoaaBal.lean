/- Contracts of ledger.Balanced and payrollref44.Balanced: both answer balB. Conditions: the slice's length fits an int. -/
import Derived.Test.YtbiajkknpkeeoaaMergeB2
import Derived.Test.YtbiajkknpkeeoaaBalP
import Derived.Maps.Keyed
namespace Go.Proofs.Ytbiajkknpkeeoaa
open Go.RowKit Go.Maps Go.WideMaps Go.WideElems Go.ChangeMaps

def litI (r : Int) : Lit := .int .i64 r
def goodI (r : Int) : Prop := (Lit.int .i64 r).wf = true
def hasRun (m : List BookT) (r : Int) : Bool := m.any fun x => decide (x.run = r)
theorem keyedI : Keyed Try.prog 3 := int_keyed Try.underlying3
theorem keyGI : KeyG litI goodI where
  lit c _ := trivial
  inj c d _ _ e := by
    injection e
theorem hasRun_take (m : List BookT) (k : Nat) (h : k < m.length) (r : Int) : hasRun (m.take (k + 1)) r = (hasRun (m.take k) r || decide (m[k].run = r)) := by
  rw [hasRun, List.take_succ_eq_append_getElem h, List.any_append]
  simp only [hasRun, List.any_cons, List.any_nil, Bool.or_false]

set_option maxRecDepth 100000 in
set_option maxHeartbeats 4000000 in
theorem balanced_any (A : Option Addr) (cap : Nat) (xs : List BookT) (w : World) (h : SliceOf encB 3 w w.heap.size A xs) (hl : xs.length ≤ 9223372036854775806) :
    Calls Try.prog 20 #[.slice A xs.length cap] w fun e w' => e = .returned (.bool (balB xs)) ∧ Below w.heap.size w w' := by
  have hmm := @run_makeMap Try.prog
  go_enter Try.func20, Try.ntmps20
  go_wp2_with fail
  refine (mergeB_any A cap xs _ h hl).mono ?_
  rintro e w1 ⟨A1, c1, rfl, hS1, hlc1, hcm1, hb1⟩
  by_cases hE : mErrB xs = 0
  rotate_left
  · have hE' : (mErrB xs != 0) = true := by simpa using hE
    have hE2 : (mErrB xs == 0) = false := by simpa using hE
    have HB : Hid (balB xs = false) := by rw [Hid, balB, if_neg hE]
    clear hE
    go_wp2
    go_ret
    exact ⟨by rw [HB.out]; rfl, hb1⟩
  · have HB : Hid (balB xs = balL (mRB xs)) := by rw [Hid, balB, if_pos hE]
    rw [hE]
    have HFA := Lib.hid (mRB_facts xs).2
    have hml := mRB_len xs
    generalize mRB xs = m at hS1 hlc1 HB HFA hml ⊢
    clear hE
    go_wp2
    have hmap0 : (w1.alloc (.map #[] 0)).ownsMap Try.prog 3 (plainElem (H := Unit) Try.prog 3) w1.heap.size 0 (.map []) := World.ownsMap_made _ _ _ _
    have hbel0 : Below w1.heap.size w1 (w1.alloc (.map #[] 0)) := below_new _ _
    go_loopw [20] (fun i wr => ∃ (k : Nat) (D : DataW Unit), k ≤ m.length ∧ i = .int .i64 k ∧ wr.ownsMap Try.prog 3 (plainElem (H := Unit) Try.prog 3) w1.heap.size k D ∧ MapG litI goodI D (hasRun (m.take k)) (runTot (m.take k)) ∧ Below w1.heap.size w1 wr) (fun i _ => m.length - (intOf i).toNat)
    case atStart => exact ⟨0, .map [], by omega, rfl, hmap0, MapG.empty, hbel0⟩
    case round =>
      clear hmap0 hbel0
      obtain ⟨k, D, hk, rfl, hown, hD, hbel⟩ := hrel
      have hbs := hbel.size
      by_cases hlt : k < m.length
      · obtain ⟨b, off, rfl, hb, hc⟩ := (hS1.adv hbel).at_ hlt
        have c0 := hc 0 _ rfl
        have c1 := hc 1 _ rfl
        have c2 := hc 2 _ rfl
        simp only [Nat.add_zero] at c0
        clear hc
        obtain ⟨⟨r1, r2⟩, _, ha1, ha2⟩ := (okB_iff _).1 (HFA.out _ (List.getElem_mem hlt)).1
        have hgd : goodI m[k].run := wf64 (by omega) (by omega)
        have hkey : keyOf Try.prog 3 (.int .i64 m[k].run) = some (litI m[k].run) := keyOf_int_mk Try.underlying3 hgd
        have hown1 := hown.kept (World.grownBy_alloc wr (Obj.cells #[.int .i64 m[k].run, .int .i64 m[k].account, .int .i64 m[k].amount] 42) none) (by simp)
        have hTb := runTot_bd (m.take k) m[k].run (fun x hx => (HFA.out x (List.mem_of_mem_take hx)).1)
        have hTl : (m.take k).length ≤ 131072 := by simp; omega
        have hT1 : -200000000000000000 ≤ runTot (m.take k) m[k].run := by omega
        have hT2 : runTot (m.take k) m[k].run ≤ 200000000000000000 := by omega
        have hat0 := hD.at_ _ hgd
        have hD1 := hD.put_ (K' := hasRun (m.take (k + 1))) (T' := runTot (m.take (k + 1))) keyGI m[k].run hgd (runTot (m.take k) m[k].run + m[k].amount) (hasRun_take m k hlt) (fun c => by
          rw [runTot_take m k hlt]
          split
          · rename_i e; rw [← e]
          · omega)
        have HD1 := Lib.hid hD1
        have HAT := Lib.hid hat0
        generalize runTot (m.take k) m[k].run = t0 at hT1 hT2 HD1 HAT
        clear hTb hTl hat0 hD hD1 hgd hmm
        go_wp2_with (first
          | (at_lookup; refine wpList_lookup_own_int _ (by rfl) _ _ 75 (by rfl) 3 3 .i64 keyedI Try.underlying75 Try.underlying3 (zeroI _) w1.heap.size k D (by rfl) hown1 _ _ (by rfl) hkey ?_; intro c hat hwc; obtain rfl : c = t0 := (by have h1 := HAT.out; rw [hat] at h1; injection h1 with h1; injection h1))
          | (at_mapUpdate; refine wpList_mapUpdate_own _ (by rfl) _ _ _ 75 (by rfl) 3 3 keyedI Try.underlying75 _ w1.heap.size k D (by rfl) hown1 (by unfold maxLen; omega) _ _ _ (by rfl) (by rfl) hkey _ [] (plainElem_int Try.underlying3 (wf64 (by omega) (by omega))) ?_; intro w2 hown2 hgrow1))
        go_roundw
        case rel => exact ⟨k + 1, _, by omega, by go_num, hown2, HD1.out, bel_only (bel_alloc hbel _) hgrow1 (fun g e => by injection e; omega)⟩
        case measure => simp [intOf]; omega
      · obtain rfl : k = m.length := by omega
        have hg0 : decide ((m.length : Int) < (m.length : Int)) = false := by simp
        have hg1 : decide (m.length < m.length) = false := by simp
        rw [List.take_length] at hD
        obtain ⟨wq, rfl⟩ : ∃ wq : World, wq = wr := ⟨_, rfl⟩
        have hBl : w1.heap.size < wq.heap.size := hown.lt
        clear hk hlt
        go_wp2_with (at_range; refine wpList_range_own _ (by rfl) _ 75 (by rfl) 3 3 keyedI Try.underlying75 (plainElem (H := Unit) Try.prog 3) w1.heap.size m.length D (by rfl) hown ?_; intro w0 hrg0 hg0' hs0)
        go_frame
        go_loopw [] (fun wr => ∃ left cnt, wr.ranges Try.prog 3 (plainElem (H := Unit) Try.prog 3) w1.heap.size wq.heap.size m.length D left cnt ∧ Hid (∀ r, goodI r → hasRun m r = true → left (litI r) = false → runTot m r = 0) ∧ Below wq.heap.size wq wr) (fun wr => wr.rangeLeft w1.heap.size wq.heap.size)
        case atStart => exact ⟨_, _, hrg0, (fun r hr hK hl => by rw [hD.has r hr, hK] at hl; cases hl), only_below hg0' (Nat.le_refl _) (by simp)⟩
        case round =>
          have HD := Lib.hid hD
          clear hown hD hrg0 hg0' hs0
          obtain ⟨left, cnt, hrg, hz, hbelq⟩ := hrel
          have hrs := hrg.lt
          go_wp2_with (at_next; refine wpList_next_ranges _ (by rfl) _ (by rfl) 3 keyedI (plainElem (H := Unit) Try.prog 3) (Value.int .i64) (Value.int .i64) (fun key kl hk => by obtain ⟨x, hx, _⟩ := Maps.keyOf_int_inv Try.underlying3 hk; exact ⟨x, hx⟩) (fun v y hv => by obtain ⟨c, hc, _⟩ := plainElem_int_inv Try.underlying3 hv; exact ⟨c, hc⟩) w1.heap.size wq.heap.size m.length _ _ _ (by rfl) hrg ?_ ?_)
          · intro hc0 hl0
            have hbl : balL m = true := balL_yes (fun x hx => hz.out x.run (by
              obtain ⟨⟨r1, r2⟩, _⟩ := (okB_iff _).1 (HFA.out x hx).1
              exact wf64 (by omega) (by omega)) (List.any_eq_true.2 ⟨x, hx, by simp⟩) (hl0 _))
            have HBL := Lib.hid hbl
            clear hbl hl0
            go_wp2
            go_ret
            exact ⟨by rw [HB.out, HBL.out]; rfl, bel_adv hb1 (bel_adv hbel hbelq)⟩
          · intro s c kl yd yp w2 cnt2 hkey hlk hv hat hrg2 hlt hg2 hs2 hen
            obtain ⟨x', hx', rfl, hgd⟩ := Maps.keyOf_int_inv Try.underlying3 hkey
            injection hx' with _ hx'
            subst hx'
            have hyd : yd = i64L c := by
              obtain ⟨c', h1, h2, _⟩ := plainElem_int_inv Try.underlying3 hv
              injection h1 with _ h1
              subst h1
              injection h2
            have hKs : hasRun m s = true := by rw [← HD.out.has s hgd]; exact has_true_of_atKey hat
            have hTs : runTot m s = c := by
              have h1 := HD.out.at_ s hgd
              rw [show litI s = Lit.int .i64 s from rfl, hat, hyd] at h1
              injection h1 with h1
              injection h1 with _ h1
              exact h1.symm
            have hbel2 : Below wq.heap.size wq w2 := bel_only hbelq hg2 (by intro g e; injection e; omega)
            by_cases hc0 : c = 0
            · have hn0 : (c != 0) = false := by simp [hc0]
              have hn1 : (c == 0) = true := by simp [hc0]
              have HZ2 : Hid (∀ r, goodI r → hasRun m r = true → (left (litI r) && !(litI r).sameKey (Lit.int .i64 s)) = false → runTot m r = 0) := by
                intro r hr hK hl
                by_cases e : r = s
                · subst e; omega
                · have hne : (litI r).sameKey (Lit.int .i64 s) = false := sameKey_ne (fun e' => e (by injection e'))
                  rw [hne] at hl
                  exact hz.out r hr hK (by simpa using hl)
              clear hs2 hat hkey hv hyd hTs hc0
              go_wp2_with fail
              go_roundw
              case rel =>
                have hf : ∃ left cnt, w2.ranges Try.prog 3 (plainElem (H := Unit) Try.prog 3) w1.heap.size wq.heap.size m.length D left cnt ∧ Hid (∀ r, goodI r → hasRun m r = true → left (litI r) = false → runTot m r = 0) ∧ Below wq.heap.size wq w2 := ⟨_, _, hrg2, HZ2, hbel2⟩
                first | exact hf | ((repeat apply Exists.intro); exact ⟨hf, rfl⟩)
              case measure => rw [hrg2.left_eq, hrg.left_eq]; omega
            · have hn0 : (c != 0) = true := by simp [hc0]
              have hn1 : (c == 0) = false := by simp [hc0]
              have HBL : Hid (balL m = false) := by
                obtain ⟨x, hx, e⟩ := List.any_eq_true.1 hKs
                have e' : x.run = s := by simpa using e
                exact balL_no hx (by rw [e', hTs]; exact hc0)
              clear hs2 hat hkey hv hyd hTs hc0
              go_wp2_with fail
              go_ret
              exact ⟨by rw [HB.out, HBL.out]; rfl, bel_adv hb1 (bel_adv hbel hbel2)⟩

set_option maxRecDepth 100000 in
set_option maxHeartbeats 4000000 in
theorem balanced44_any (A : Option Addr) (cap : Nat) (xs : List BookT) (w : World) (h : SliceOf encB 3 w w.heap.size A xs) (hl : xs.length ≤ 9223372036854775806) :
    Calls Try.prog 24 #[.slice A xs.length cap] w fun e w' => e = .returned (.bool (balB xs)) ∧ Below w.heap.size w w' := by
  go_enter Try.func24, Try.ntmps24
  go_wp2_with fail
  refine (mergeB44_any A cap xs _ h hl).mono ?_
  rintro e w1 ⟨A1, c1, rfl, hS1, hlc1, hcm1, hb1⟩
  by_cases hE : mErrB xs = 0
  rotate_left
  · have hE' : (mErrB xs != 0) = true := by simpa using hE
    have hE2 : (mErrB xs == 0) = false := by simpa using hE
    have HB : Hid (balB xs = false) := by rw [Hid, balB, if_neg hE]
    clear hE
    go_wp2
    go_ret
    exact ⟨by rw [HB.out]; rfl, hb1⟩
  · have HB : Hid (balB xs = balL (mRB xs)) := by rw [Hid, balB, if_pos hE]
    rw [hE]
    have HFA := Lib.hid (mRB_facts xs).2
    have HS := Lib.hid (mRB_facts xs).1
    have hml := mRB_len xs
    generalize mRB xs = m at hS1 hlc1 HB HFA HS hml ⊢
    clear hE
    go_wp2
    go_loopw [5, 6] (fun s i wr => ∃ (k q : Nat) (n : Int), k ≤ m.length ∧ i = .int .i64 k ∧ s = .int .i64 n ∧ Hid (BalAt m k n) ∧ -(k * 1000000000000 : Int) ≤ n ∧ n ≤ k * 1000000000000 ∧ Hid (wr = w1.drewN q)) (fun _ i _ => m.length - (intOf i).toNat)
    case atStart => exact ⟨0, 0, 0, by omega, rfl, rfl, BalAt.start m, by omega, by omega, rfl⟩
    case round =>
      obtain ⟨k, q, n, hk, rfl, rfl, hbal, hn1, hn2, hw⟩ := hrel
      have hS : SliceOf encB 3 wr wr.heap.size A1 m := by rw [hw.out]; exact hS1
      have hbel : Below w.heap.size w wr := by rw [hw.out]; exact below_drewN hb1 q
      by_cases hlt : k < m.length
      · obtain ⟨b, off, rfl, hb, hc⟩ := hS.at_ hlt
        have c0 := hc 0 _ rfl
        have c1 := hc 1 _ rfl
        have c2 := hc 2 _ rfl
        simp only [Nat.add_zero] at c0
        clear hc
        obtain ⟨_, _, ha1, ha2⟩ := (okB_iff _).1 (HFA.out _ (List.getElem_mem hlt)).1
        have HE : Hid (∀ hl : k + 1 = m.length ∨ ∃ h1 : k + 1 < m.length, m[k + 1].run ≠ m[k].run, n + m[k].amount = 0 → BalAt m (k + 1) (n + m[k].amount)) := fun hl h0 => hbal.out.end_ HS.out hlt hl h0
        have HF : Hid (∀ hl : k + 1 = m.length ∨ ∃ h1 : k + 1 < m.length, m[k + 1].run ≠ m[k].run, n + m[k].amount ≠ 0 → balL m = false) := fun hl h0 => hbal.out.fail HS.out hlt hl h0
        by_cases hlast : k + 1 = m.length
        · have hl1 : ((k : Int) + 1 == (m.length : Int)) = true := by simp; omega
          by_cases h0 : n + m[k].amount = 0
          · have HB2 := Lib.hid (HE.out (.inl hlast) h0)
            have h0a : (n + m[k].amount != 0) = false := by simpa using h0
            have h0b : (n + m[k].amount == 0) = true := by simpa using h0
            clear h0 hlast
            go_wp2_with fail
            go_quiet (fail)
            go_wp2
            go_roundw
            case rel => exact ⟨k + 1, q + nq, _, by omega, by go_num, rfl, HB2, by omega, by omega, by show wr.drewN nq = w1.drewN (q + nq); rw [hw.out, World.drewN_drewN]⟩
            case measure => simp [intOf]; omega
          · have HB2 := Lib.hid (HF.out (.inl hlast) h0)
            have h0a : (n + m[k].amount != 0) = true := by simpa using h0
            have h0b : (n + m[k].amount == 0) = false := by simpa using h0
            clear h0 hlast
            go_wp2_with fail
            go_quiet (fail)
            go_wp2
            go_ret
            exact ⟨by rw [HB.out, HB2.out]; rfl, below_drewN hbel _⟩
        · have hlt2 : k + 1 < m.length := by omega
          have hl1 : ((k : Int) + 1 == (m.length : Int)) = false := by simp; omega
          have hi1 : (k : Int) + 1 < (m.length : Int) := by omega
          obtain ⟨b', off', hA', hb', hc'⟩ := hS.at_ hlt2
          injection hA' with hA'
          injection hA' with h1 h2
          subst h1 h2
          have p0 := hc' 0 _ rfl
          simp only [Nat.add_zero] at p0
          clear hc' hlast
          by_cases hr : m[k + 1].run = m[k].run
          · have HB2 := Lib.hid (hbal.out.stay HS.out hlt2 hr)
            have hra : (m[k + 1].run != m[k].run) = false := by simpa using hr
            have hrb : (m[k + 1].run == m[k].run) = true := by simpa using hr
            clear hr
            go_wp2_with fail
            go_quiet (fail)
            go_wp2
            go_roundw
            case rel => exact ⟨k + 1, q + nq, _, by omega, by go_num, rfl, HB2, by omega, by omega, by show wr.drewN nq = w1.drewN (q + nq); rw [hw.out, World.drewN_drewN]⟩
            case measure => simp [intOf]; omega
          · have hra : (m[k + 1].run != m[k].run) = true := by simpa using hr
            have hrb : (m[k + 1].run == m[k].run) = false := by simpa using hr
            by_cases h0 : n + m[k].amount = 0
            · have HB2 := Lib.hid (HE.out (.inr ⟨hlt2, hr⟩) h0)
              have h0a : (n + m[k].amount != 0) = false := by simpa using h0
              have h0b : (n + m[k].amount == 0) = true := by simpa using h0
              clear h0 hr
              go_wp2_with fail
              go_quiet (fail)
              go_wp2
              go_roundw
              case rel => exact ⟨k + 1, q + nq, _, by omega, by go_num, rfl, HB2, by omega, by omega, by show wr.drewN nq = w1.drewN (q + nq); rw [hw.out, World.drewN_drewN]⟩
              case measure => simp [intOf]; omega
            · have HB2 := Lib.hid (HF.out (.inr ⟨hlt2, hr⟩) h0)
              have h0a : (n + m[k].amount != 0) = true := by simpa using h0
              have h0b : (n + m[k].amount == 0) = false := by simpa using h0
              clear h0 hr
              go_wp2_with fail
              go_quiet (fail)
              go_wp2
              go_ret
              exact ⟨by rw [HB.out, HB2.out]; rfl, below_drewN hbel _⟩
      · obtain rfl : k = m.length := by omega
        have HBL := Lib.hid hbal.out.done
        go_wp2
        go_ret
        exact ⟨by rw [HB.out, HBL.out]; rfl, hbel⟩

end Go.Proofs.Ytbiajkknpkeeoaa
