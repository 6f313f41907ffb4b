/- The walk of payrolllaw26.WageLimits: it returns true and turns nothing that was there. Conditions: none. -/
import Derived.Test.YtlfefcfddpmccaaAwake
import Derived.Test.YtlfefcfddpmccaaData2
import Derived.Laws.MakeOwn
namespace Go.Proofs.Ytlfefcfddpmccaa
open Go.RowKit

def liW : List WageT := [⟨⟨#[97]⟩, 1, false, false, false, 1000⟩]
def liA : Elem := ⟨⟨#[97]⟩, 0⟩
def liE (k : Int) : List Elem := [⟨⟨#[97]⟩, 1000000000⟩, ⟨⟨#[97]⟩, k⟩]
def liB : List Elem := [⟨⟨#[98]⟩, 0⟩]
def liR (n : Nat) : List Elem := List.replicate n liA
theorem li1 : preErr (liR 127) = 0 := by decide +kernel
theorem li2 : preErr (liR 128) = 0 := by decide +kernel
theorem li3 : preErr (liR 129) = 3 := by decide +kernel
theorem li4 : ofErr liW (liE 0) (liE 0) = 0 := by decide +kernel
theorem li5 : ofErr liW (liE 1) (liE 1) = 4 := by decide +kernel
theorem li6 : ofErr liW (liE 2) (liE 2) = 4 := by decide +kernel
theorem li7 : ofErr liW liB liB = 16 := by decide +kernel
theorem ofV_form2 (ws : List WageT) (l m : List Elem) : ∃ (b : BasesT), ofV ws l m = .tuple #[.agg #[.int .i64 b.g, .int .i64 b.c, .int .i64 b.t, .int .i64 b.i, .int .i64 b.a], .int .i64 (ofErr ws l m)] := ⟨_, rfl⟩

def mkE (n : Nat) : Array Value := madeCells #[.string ⟨#[]⟩, .int .i64 0] (n * 2)
theorem make_run (n : Nat) (hn : n ≤ 1000) (w : World) : (Instr.makeSlice 38 (.int .i64 (n : Int)) (.int .i64 (n : Int))).run Try.prog w = .ok (.slice (some ⟨w.heap.size, 0, none⟩) n n) (w.alloc (.cells (mkE n) 44)) := by
  obtain ⟨i, hi, hz, hs, hb⟩ := info_parts infoE
  have h := run_make (P := Try.prog) w 38 44 i _ Try.underlying38 hi hz .i64 .i64 n n (by omega) (by omega) (by rw [hb]; omega) (by omega)
  rw [Int.toNat_natCast, hs] at h
  exact h

/-- The row with its first k elements written. -/
def Filled (w : World) (g n k : Nat) : Prop := ∃ cs : Array Value, Blk w g 44 cs ∧ cs.size = n * 2 ∧ ∀ i, i < k → cs[i * 2]? = some (.string liA.code) ∧ cs[i * 2 + 1]? = some (.int .i64 liA.amount)
theorem Filled.slice {w : World} {g n : Nat} (h : Filled w g n n) : SliceOf encE 2 w w.heap.size (some ⟨g, 0, none⟩) (liR n) := fun _ => by
  obtain ⟨cs, hB, hs, hc⟩ := h
  refine ⟨g, 0, rfl, hB.lt, fun i x hi j v hj => ?_⟩
  obtain ⟨hi', rfl⟩ := List.getElem?_eq_some_iff.1 hi
  simp [liR] at hi'
  simp only [liR, List.getElem_replicate] at hj
  rw [Nat.zero_add, hB.cell]
  match j, hj with
  | 0, hj => simp [encE] at hj; subst hj; exact (hc i hi').1
  | 1, hj => simp [encE] at hj; subst hj; exact (hc i hi').2
  | (m + 2), hj => simp [encE] at hj

theorem Filled.step {w : World} {g n k : Nat} {cs : Array Value} (hB : Blk w g 44 cs) (hs : cs.size = n * 2) (hk : k < n) (hc : ∀ i, i < k → cs[i * 2]? = some (.string liA.code) ∧ cs[i * 2 + 1]? = some (.int .i64 liA.amount)) :
    Filled ((w.setCell ⟨g, k * 2, none⟩ (.string ⟨#[97]⟩)).setCell ⟨g, k * 2 + 1, none⟩ (.int .i64 0)) g n (k + 1) := by
  refine ⟨_, (hB.set_ _ _).set_ _ _, by simp [hs], fun i hi => ?_⟩
  rcases Nat.lt_or_ge i k with h | h
  · obtain ⟨h1, h2⟩ := hc i h
    rw [Array.getElem?_setIfInBounds_ne (by omega), Array.getElem?_setIfInBounds_ne (by omega), Array.getElem?_setIfInBounds_ne (by omega), Array.getElem?_setIfInBounds_ne (by omega)]
    exact ⟨h1, h2⟩
  · obtain rfl : i = k := by omega
    rw [Array.getElem?_setIfInBounds_ne (by omega), Array.getElem?_setIfInBounds_self_of_lt (by omega), Array.getElem?_setIfInBounds_self_of_lt (by simp; omega)]
    exact ⟨rfl, rfl⟩
theorem liR_len (n : Nat) : (liR n).length = n := by simp [liR]
theorem liR_size (n : Nat) : ∀ x ∈ liR n, x.code.size ≤ maxLen := fun x hx => by
  obtain rfl := List.eq_of_mem_replicate hx
  show 1 ≤ maxLen
  unfold maxLen; omega
theorem li_merge (n c : Nat) (A : Option Addr) (w : World) (hn : n ≤ 1000) (h : SliceOf encE 2 w w.heap.size A (liR n)) :
    Calls Try.prog 24 #[.slice A n c] w (MergePost (mergeR (liR n)) (preErr (liR n)) w) := by
  have := merge_any A c (liR n) w h (liR_size n) (by rw [liR_len]; omega)
  rw [liR_len] at this
  exact this
theorem li_of (l : List Elem) (k : Nat) (A : Option Addr) (g : Nat) (w1 w : World) (hW : SliceOf encW 6 w1 g A liW) (hg : g ≤ w1.heap.size) (hb : Below w1.heap.size w1 w) (er : Int) (he : ofErr liW l l = er) (hl : l.length = k) (hk : k ≤ 2) (hz : ∀ x ∈ l, x.code.size ≤ maxLen) :
    Calls Try.prog 28 #[.slice A 1 1, .slice (some ⟨w.heap.size, 0, none⟩) k k] (w.alloc (.cells (l.flatMap encE).toArray 44)) fun e w' => ∃ b : BasesT, e = .returned (.tuple #[.agg #[.int .i64 b.g, .int .i64 b.c, .int .i64 b.t, .int .i64 b.i, .int .i64 b.a], .int .i64 er]) ∧ Below w.heap.size w w' := by
  subst hl
  subst he
  have hE := SliceOf.new encE_len w l _ 44 rfl
  have hW2 := ((hW.more hg).adv hb).advA (Obj.cells (l.flatMap encE).toArray 44)
  obtain ⟨bb, hbb⟩ := ofV_form2 liW l l
  refine (of_any A _ 1 _ liW l _ hW2 (by decide) (by simp [liW]) (hE.more (by simp)) hz (by omega)).mono ?_
  rintro e w' ⟨rfl, hb'⟩
  exact ⟨bb, by rw [hbb], bel_adv (below_new _ _) hb'⟩

set_option maxRecDepth 100000 in
set_option maxHeartbeats 4000000 in
theorem limits_walk (n big : Int) (w : World) :
    Calls Try.prog 7 #[.int .i64 n, .int .i64 big] w fun e w' => e = .returned (.bool true) ∧ Below w.heap.size w w' := by
  go_enter Try.func7, Try.ntmps7
  go_wp2_with fail
  have hW := SliceOf.new encW_len w liW _ 31 rfl
  refine (mod_any _ _ _ (by omega) (by omega)).mono ?_
  rintro e w1 ⟨rfl, rfl⟩
  have hb0 := below_new w (Obj.cells (liW.flatMap encW).toArray 31)
  rw [show (w.alloc (.cells #[.string ⟨#[97]⟩, .int .i64 1, .bool false, .bool false, .bool false, .int .i64 1000] 31)) = w.alloc (Obj.cells (liW.flatMap encW).toArray 31) from rfl]
  generalize hr : n % 3 = r
  have h0 : 0 ≤ r := by omega
  have h1 : r < 3 := by omega
  obtain ⟨j, rfl⟩ := Int.eq_ofNat_of_zero_le h0
  clear hr
  have hs0' : w.heap.size + 1 ≤ (w.alloc (Obj.cells (liW.flatMap encW).toArray 31)).heap.size := by simp
  generalize hw1 : w.alloc (Obj.cells (liW.flatMap encW).toArray 31) = w1 at *
  have hmk := make_run (127 + j) (by omega)
  have ec : ((127 + j : Nat) : Int) = 127 + (j : Int) := by omega
  rw [ec] at hmk
  clear ec hw1
  go_wp2_with fail
  have hs0 := hb0.size
  have hF0 : Filled (w1.alloc (.cells (mkE (127 + j)) 44)) w1.heap.size (127 + j) 0 := ⟨_, Blk.new _ _ _, by simp [mkE, size_madeCells], fun i hi => absurd hi (by omega)⟩
  go_loopw [7] (fun i wr => ∃ k : Nat, k ≤ 127 + j ∧ i = .int .i64 k ∧ Filled wr w1.heap.size (127 + j) k ∧ Below w1.heap.size w1 wr) (fun i _ => 127 + j - (intOf i).toNat)
  case atStart => exact ⟨0, by omega, rfl, hF0, below_new _ _⟩
  case round =>
    clear hF0
    obtain ⟨k, hk, rfl, ⟨cs, hB, hsz, hcs⟩, hbel⟩ := hrel
    have hbs := hbel.size
    have hlg := hB.lt
    by_cases hlt : k < 127 + j
    · have hlt' : (k : Int) < 127 + (j : Int) := by omega
      have e0 := hB.cell (k * 2)
      have e1 := hB.cell (k * 2 + 1)
      rw [Array.getElem?_eq_getElem (by omega)] at e0 e1
      have f0 := hB.frozen (k * 2)
      have f1 := hB.frozen (k * 2 + 1)
      have HCS := Lib.hid hcs
      generalize cs[k * 2]'(by omega) = x0 at e0
      generalize cs[k * 2 + 1]'(by omega) = x1 at e1
      clear hcs
      go_wp2_with fail
      go_roundw
      case rel =>
        have hfin : ∃ k' : Nat, k' ≤ 127 + j ∧ Value.int .i64 ((k : Int) + 1) = .int .i64 k' ∧ Filled ((wr.setCell ⟨w1.heap.size, k * 2, none⟩ (.string ⟨#[97]⟩)).setCell ⟨w1.heap.size, k * 2 + 1, none⟩ (.int .i64 0)) w1.heap.size (127 + j) k' ∧ Below w1.heap.size w1 ((wr.setCell ⟨w1.heap.size, k * 2, none⟩ (.string ⟨#[97]⟩)).setCell ⟨w1.heap.size, k * 2 + 1, none⟩ (.int .i64 0)) :=
          ⟨k + 1, by omega, by go_num, Filled.step hB hsz hlt HCS.out, bel_set (bel_set hbel (Nat.le_refl _) _ _) (Nat.le_refl _) _ _⟩
        first | exact hfin | ((repeat apply Exists.intro); exact ⟨hfin, rfl⟩)
      case measure => simp [intOf]; omega
    · obtain rfl : k = 127 + j := by omega
      have hge : ¬ ((127 + j : Nat) : Int) < 127 + (j : Int) := by omega
      have hF : Filled wr w1.heap.size (127 + j) (127 + j) := ⟨cs, hB, hsz, hcs⟩
      have hSl := hF.slice
      clear hF hB hsz hcs
      have hP0 : j ≤ 1 → preErr (liR (127 + j)) = 0 := fun h => by
        rcases (by omega : j = 0 ∨ j = 1) with rfl | rfl
        · exact li1
        · exact li2
      have hP1 : ¬ j ≤ 1 → preErr (liR (127 + j)) = 3 := fun h => by
        obtain rfl : j = 2 := by omega
        exact li3
      have HP0 := Lib.hid hP0
      have HP1 := Lib.hid hP1
      clear hP0 hP1
      have hj2 : j ≤ 2 := by omega
      by_cases hj : j ≤ 1
      · have hj' : ¬ (128 : Int) < 127 + (j : Int) := by omega
        go_wp2_with fail
        refine (li_merge (127 + j) (127 + j) _ _ (by omega) hSl).mono ?_
        rintro e w2 ⟨A2, c2, rfl, hS2, hc2, hcm2, hb2⟩
        rw [HP0.out hj]
        have hb12 := bel_adv hbel hb2
        generalize mergeR (liR (127 + j)) = R at *
        go_wp2_with fail
        refine (mod_any _ _ _ (by omega) (by omega)).mono ?_
        rintro e w3 ⟨rfl, rfl⟩
        clear HP0 HP1 hmk hSl hbel hS2
        generalize hr2 : big % 3 = r2
        have hr2' : r2 = 0 ∨ r2 = 1 ∨ r2 = 2 := by omega
        clear hr2
        rcases hr2' with rfl | rfl | rfl
        · go_wp2_with fail
          have hof := li_of (liE 0) 2 _ _ w1 w2 hW hs0' hb12 _ li4 rfl (by omega) (by decide)
          rw [show ((liE 0).flatMap encE).toArray = #[.string ⟨#[97]⟩, .int .i64 1000000000, .string ⟨#[97]⟩, .int .i64 0] from rfl] at hof
          have HOF := Lib.hid hof
          clear hof
          refine HOF.out.mono ?_
          rintro e w4 ⟨b4, rfl, hb4⟩
          have hb14 := bel_alloc (bel_adv hb12 hb4) (Obj.cells #[.int .i64 b4.g, .int .i64 b4.c, .int .i64 b4.t, .int .i64 b4.i, .int .i64 b4.a] 52)
          go_wp2_with fail
          have hof := li_of liB 1 _ _ w1 _ hW hs0' hb14 _ li7 rfl (by omega) (by decide)
          rw [show (liB.flatMap encE).toArray = #[.string ⟨#[98]⟩, .int .i64 0] from rfl, World.size_alloc] at hof
          refine hof.mono ?_
          rintro e w5 ⟨b5, rfl, hb5⟩
          go_wp2_with fail
          refine (awake_any _).mono ?_
          rintro e w6 ⟨rfl, hb6⟩
          go_wp2
          go_ret
          exact ⟨rfl, bel_adv hb0 (bel_adv (bel_alloc (bel_adv hb14 (by rw [World.size_alloc]; exact hb5)) _) hb6)⟩
        · go_wp2_with fail
          have hof := li_of (liE 1) 2 _ _ w1 w2 hW hs0' hb12 _ li5 rfl (by omega) (by decide)
          rw [show ((liE 1).flatMap encE).toArray = #[.string ⟨#[97]⟩, .int .i64 1000000000, .string ⟨#[97]⟩, .int .i64 1] from rfl] at hof
          have HOF := Lib.hid hof
          clear hof
          refine HOF.out.mono ?_
          rintro e w4 ⟨b4, rfl, hb4⟩
          have hb14 := bel_alloc (bel_adv hb12 hb4) (Obj.cells #[.int .i64 b4.g, .int .i64 b4.c, .int .i64 b4.t, .int .i64 b4.i, .int .i64 b4.a] 52)
          go_wp2_with fail
          have hof := li_of liB 1 _ _ w1 _ hW hs0' hb14 _ li7 rfl (by omega) (by decide)
          rw [show (liB.flatMap encE).toArray = #[.string ⟨#[98]⟩, .int .i64 0] from rfl, World.size_alloc] at hof
          refine hof.mono ?_
          rintro e w5 ⟨b5, rfl, hb5⟩
          go_wp2_with fail
          refine (awake_any _).mono ?_
          rintro e w6 ⟨rfl, hb6⟩
          go_wp2
          go_ret
          exact ⟨rfl, bel_adv hb0 (bel_adv (bel_alloc (bel_adv hb14 (by rw [World.size_alloc]; exact hb5)) _) hb6)⟩
        · go_wp2_with fail
          have hof := li_of (liE 2) 2 _ _ w1 w2 hW hs0' hb12 _ li6 rfl (by omega) (by decide)
          rw [show ((liE 2).flatMap encE).toArray = #[.string ⟨#[97]⟩, .int .i64 1000000000, .string ⟨#[97]⟩, .int .i64 2] from rfl] at hof
          have HOF := Lib.hid hof
          clear hof
          refine HOF.out.mono ?_
          rintro e w4 ⟨b4, rfl, hb4⟩
          have hb14 := bel_alloc (bel_adv hb12 hb4) (Obj.cells #[.int .i64 b4.g, .int .i64 b4.c, .int .i64 b4.t, .int .i64 b4.i, .int .i64 b4.a] 52)
          go_wp2_with fail
          have hof := li_of liB 1 _ _ w1 _ hW hs0' hb14 _ li7 rfl (by omega) (by decide)
          rw [show (liB.flatMap encE).toArray = #[.string ⟨#[98]⟩, .int .i64 0] from rfl, World.size_alloc] at hof
          refine hof.mono ?_
          rintro e w5 ⟨b5, rfl, hb5⟩
          go_wp2_with fail
          refine (awake_any _).mono ?_
          rintro e w6 ⟨rfl, hb6⟩
          go_wp2
          go_ret
          exact ⟨rfl, bel_adv hb0 (bel_adv (bel_alloc (bel_adv hb14 (by rw [World.size_alloc]; exact hb5)) _) hb6)⟩
      · have hj' : (128 : Int) < 127 + (j : Int) := by omega
        go_wp2_with fail
        refine (li_merge (127 + j) (127 + j) _ _ (by omega) hSl).mono ?_
        rintro e w2 ⟨A2, c2, rfl, hS2, hc2, hcm2, hb2⟩
        rw [HP1.out hj]
        have hb12 := bel_adv hbel hb2
        generalize mergeR (liR (127 + j)) = R at *
        go_wp2_with fail
        refine (mod_any _ _ _ (by omega) (by omega)).mono ?_
        rintro e w3 ⟨rfl, rfl⟩
        clear HP0 HP1 hmk hSl hbel hS2
        generalize hr2 : big % 3 = r2
        have hr2' : r2 = 0 ∨ r2 = 1 ∨ r2 = 2 := by omega
        clear hr2
        rcases hr2' with rfl | rfl | rfl
        · go_wp2_with fail
          have hof := li_of (liE 0) 2 _ _ w1 w2 hW hs0' hb12 _ li4 rfl (by omega) (by decide)
          rw [show ((liE 0).flatMap encE).toArray = #[.string ⟨#[97]⟩, .int .i64 1000000000, .string ⟨#[97]⟩, .int .i64 0] from rfl] at hof
          have HOF := Lib.hid hof
          clear hof
          refine HOF.out.mono ?_
          rintro e w4 ⟨b4, rfl, hb4⟩
          have hb14 := bel_alloc (bel_adv hb12 hb4) (Obj.cells #[.int .i64 b4.g, .int .i64 b4.c, .int .i64 b4.t, .int .i64 b4.i, .int .i64 b4.a] 52)
          go_wp2_with fail
          have hof := li_of liB 1 _ _ w1 _ hW hs0' hb14 _ li7 rfl (by omega) (by decide)
          rw [show (liB.flatMap encE).toArray = #[.string ⟨#[98]⟩, .int .i64 0] from rfl, World.size_alloc] at hof
          refine hof.mono ?_
          rintro e w5 ⟨b5, rfl, hb5⟩
          go_wp2_with fail
          refine (awake_any _).mono ?_
          rintro e w6 ⟨rfl, hb6⟩
          go_wp2
          go_ret
          exact ⟨rfl, bel_adv hb0 (bel_adv (bel_alloc (bel_adv hb14 (by rw [World.size_alloc]; exact hb5)) _) hb6)⟩
        · go_wp2_with fail
          have hof := li_of (liE 1) 2 _ _ w1 w2 hW hs0' hb12 _ li5 rfl (by omega) (by decide)
          rw [show ((liE 1).flatMap encE).toArray = #[.string ⟨#[97]⟩, .int .i64 1000000000, .string ⟨#[97]⟩, .int .i64 1] from rfl] at hof
          have HOF := Lib.hid hof
          clear hof
          refine HOF.out.mono ?_
          rintro e w4 ⟨b4, rfl, hb4⟩
          have hb14 := bel_alloc (bel_adv hb12 hb4) (Obj.cells #[.int .i64 b4.g, .int .i64 b4.c, .int .i64 b4.t, .int .i64 b4.i, .int .i64 b4.a] 52)
          go_wp2_with fail
          have hof := li_of liB 1 _ _ w1 _ hW hs0' hb14 _ li7 rfl (by omega) (by decide)
          rw [show (liB.flatMap encE).toArray = #[.string ⟨#[98]⟩, .int .i64 0] from rfl, World.size_alloc] at hof
          refine hof.mono ?_
          rintro e w5 ⟨b5, rfl, hb5⟩
          go_wp2_with fail
          refine (awake_any _).mono ?_
          rintro e w6 ⟨rfl, hb6⟩
          go_wp2
          go_ret
          exact ⟨rfl, bel_adv hb0 (bel_adv (bel_alloc (bel_adv hb14 (by rw [World.size_alloc]; exact hb5)) _) hb6)⟩
        · go_wp2_with fail
          have hof := li_of (liE 2) 2 _ _ w1 w2 hW hs0' hb12 _ li6 rfl (by omega) (by decide)
          rw [show ((liE 2).flatMap encE).toArray = #[.string ⟨#[97]⟩, .int .i64 1000000000, .string ⟨#[97]⟩, .int .i64 2] from rfl] at hof
          have HOF := Lib.hid hof
          clear hof
          refine HOF.out.mono ?_
          rintro e w4 ⟨b4, rfl, hb4⟩
          have hb14 := bel_alloc (bel_adv hb12 hb4) (Obj.cells #[.int .i64 b4.g, .int .i64 b4.c, .int .i64 b4.t, .int .i64 b4.i, .int .i64 b4.a] 52)
          go_wp2_with fail
          have hof := li_of liB 1 _ _ w1 _ hW hs0' hb14 _ li7 rfl (by omega) (by decide)
          rw [show (liB.flatMap encE).toArray = #[.string ⟨#[98]⟩, .int .i64 0] from rfl, World.size_alloc] at hof
          refine hof.mono ?_
          rintro e w5 ⟨b5, rfl, hb5⟩
          go_wp2_with fail
          refine (awake_any _).mono ?_
          rintro e w6 ⟨rfl, hb6⟩
          go_wp2
          go_ret
          exact ⟨rfl, bel_adv hb0 (bel_adv (bel_alloc (bel_adv hb14 (by rw [World.size_alloc]; exact hb5)) _) hb6)⟩

end Go.Proofs.Ytlfefcfddpmccaa
