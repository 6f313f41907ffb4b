/- The walk of DeductionValid: it returns true and turns nothing that was there. Conditions: as stated. -/
import Derived.Test.YtcpkdpflkjjlcaaAwake27
namespace Go.Proofs.Ytcpkdpflkjjlcaa
open Go.RowKit

/-- One cell of one element is written. -/
theorem SliceOf.set_ {α : Type} {enc : α → List Value} {k : Nat} {w : World} {B b off : Nat} {xs : List α} (hs : SliceOf enc k w B (some ⟨b, off, none⟩) xs) (hk : ∀ x, (enc x).length = k) {j f : Nat} (hj : j < xs.length) {v u : Value} {x' : α}
    (hf : f < k) (hv : (enc x')[f]? = some v) (hother : ∀ i, i ≠ f → (enc x')[i]? = (enc xs[j])[i]?) (hu : w.cell? ⟨b, off + j * k + f, none⟩ = some u) :
    SliceOf enc k (w.setCell ⟨b, off + j * k + f, none⟩ v) B (some ⟨b, off, none⟩) (xs.set j x') := by
  intro _
  have hne : xs ≠ [] := by intro e; subst e; simp at hj
  obtain ⟨b', off', hA, hb, hc⟩ := hs hne
  injection hA with hA
  injection hA with h1 h2
  subst h1 h2
  refine ⟨b, off, rfl, hb, fun i x hi l y hy => ?_⟩
  have hl : l < k := by have := (List.getElem?_eq_some_iff.1 hy).1; rwa [hk] at this
  by_cases hij : i = j
  · subst hij
    have hx : x = x' := by
      have : (xs.set i x')[i]? = some x' := by simp [hj]
      rw [this] at hi; injection hi with hi; exact hi.symm
    subst hx
    by_cases hlf : l = f
    · subst hlf
      rw [hv] at hy
      injection hy with hy
      subst hy
      exact World.cell?_setCell_same w _ _ hu
    · rw [World.cell?_setCell_other _ _ _ _ (by intro e; injection e; omega)]
      exact hc i _ (List.getElem?_eq_getElem hj) l y (by rw [← hother l hlf]; exact hy)
  · have hi' : xs[i]? = some x := by rw [List.getElem?_set_ne (fun e => hij e.symm)] at hi; exact hi
    rw [World.cell?_setCell_other _ _ _ _ (by
      intro e
      injection e with _ e
      rcases Nat.lt_or_ge i j with h | h
      · have : (i + 1) * k ≤ j * k := Nat.mul_le_mul_right k h
        rw [Nat.succ_mul] at this; omega
      · have hji : j + 1 ≤ i := by omega
        have : (j + 1) * k ≤ i * k := Nat.mul_le_mul_right k hji
        rw [Nat.succ_mul] at this; omega)]
    exact hc i x hi' l y hy

/-- What stands before the last statement: the drawn list, one field changed perhaps. -/
def VCutD (w : World) (bd : Nat) (n : Nat) (A : Option Addr) (wx : World) : Prop := ∃ zs : List DedT, zs.length = n ∧ SliceOf encD 6 wx wx.heap.size A zs ∧ (∀ z ∈ zs, z.code.size ≤ maxLen) ∧ DeckIn wx bd 40 ∧ Below w.heap.size w wx
theorem vcutD_set {w W : World} {b off j f bd : Nat} {zs : List DedT} (hS : SliceOf encD 6 W W.heap.size (some ⟨b, off, none⟩) zs) (hz : ∀ z ∈ zs, z.code.size ≤ maxLen) (hbel : Below w.heap.size w W) (hbb : w.heap.size ≤ b) (hbd : bd < b) (hd : DeckIn W bd 40) (hj : j < zs.length) {v u : Value} {x' : DedT}
    (hf : f < 6) (hv : (encD x')[f]? = some v) (hother : ∀ i, i ≠ f → (encD x')[i]? = (encD zs[j])[i]?) (hu : W.cell? ⟨b, off + j * 6 + f, none⟩ = some u) (hx : x'.code.size ≤ maxLen) :
    VCutD w bd zs.length (some ⟨b, off, none⟩) (W.setCell ⟨b, off + j * 6 + f, none⟩ v) := by
  have h1 := hS.set_ encD_len hj hf hv hother hu
  have hg : W.grownBy (W.setCell ⟨b, off + j * 6 + f, none⟩ v) (some b) := only_setCell (only_refl _ _) (.inl rfl) _
  refine ⟨zs.set j x', by simp, h1.more (by simp), fun z hzz => ?_, hd.grown hg (fun g e => by injection e; omega), hbel.setCell hbb v⟩
  rcases List.mem_or_eq_of_mem_set hzz with h | h
  · exact hz z h
  · rw [h]; exact hx
def vcodesD : List ByteArray := [⟨#[]⟩, ⟨#[97]⟩, ⟨#[122, 122]⟩, ⟨#[112, 108, 97, 110]⟩, ⟨#[76, 111, 97, 110]⟩]
theorem vcodesD_size {c : ByteArray} (h : c ∈ vcodesD) : c.size ≤ maxLen := by
  have : ∀ c ∈ vcodesD, c.size ≤ 4 := by decide
  exact Nat.le_trans (this c h) (by unfold maxLen; omega)

set_option maxRecDepth 100000 in
set_option maxHeartbeats 4000000 in
theorem valid27_walk (A B I : Option Addr) (cap bcap icap : Nat) (xs : List DedT) (es : List Elem) (l : List Int) (fld by_ : Int) (w : World)
    (h : SliceOf encD 6 w w.heap.size A xs) (hz : ∀ x ∈ xs, x.code.size ≤ maxLen) (hl : xs.length ≤ 9223372036854775807)
    (he : SliceOf encE 2 w w.heap.size B es) (hez : ∀ x ∈ es, x.code.size ≤ maxLen) (hel : es.length ≤ 9223372036854775807)
    (hI : SliceOf encI 1 w w.heap.size I l) (hIl : l.length ≤ 9223372036854775807) (hIb : ∀ x ∈ l, I64 x) :
    Calls Try.prog 3 #[.slice A xs.length cap, .slice B es.length bcap, .slice I l.length icap, .int .i64 fld, .int .i64 by_] w fun e w' => e = .returned (.bool true) ∧ Below w.heap.size w w' := by
  have HZ := Lib.hid hz; clear hz
  have HEZ := Lib.hid hez; clear hez
  by_cases hsh : shortDB xs = true
  rotate_left
  · have hsh' : shortDB xs = false := by simpa using hsh
    clear hsh
    go_enter Try.func3, Try.ntmps3
    go_wp2_with (go_at_call 9; refine (shortD_any A cap xs _ _ h hl).mono ?_; rintro e w' ⟨rfl, rfl⟩)
    refine (awake_any _).mono ?_
    rintro e w5 ⟨rfl, hb5⟩
    go_wp2
    go_ret
    exact ⟨rfl, hb5⟩
  by_cases hse : shortEB es = true
  rotate_left
  · have hse' : shortEB es = false := by simpa using hse
    clear hse
    go_enter Try.func3, Try.ntmps3
    go_wp2_with (first | (go_at_call 9; refine (shortD_any A cap xs _ _ h hl).mono ?_; rintro e w' ⟨rfl, rfl⟩) | (go_at_call 10; refine (shortE_any B bcap es _ _ he hel).mono ?_; rintro e w' ⟨rfl, rfl⟩))
    refine (awake_any _).mono ?_
    rintro e w5 ⟨rfl, hb5⟩
    go_wp2
    go_ret
    exact ⟨rfl, hb5⟩
  go_enter Try.func3, Try.ntmps3
  go_wp2_with (first | (go_at_call 9; refine (shortD_any A cap xs _ _ h hl).mono ?_; rintro e w' ⟨rfl, rfl⟩) | (go_at_call 10; refine (shortE_any B bcap es _ _ he hel).mono ?_; rintro e w' ⟨rfl, rfl⟩))
  refine (new_any I l icap _ hI hIl hIb).mono ?_
  rintro e w1 ⟨rfl, hd1, hb1⟩
  have hlt1 := hd1.lt
  go_wp2_with fail
  refine (deductions_any w.heap.size 0 _ (by omega) hd1).mono ?_
  rintro e w2 ⟨v2, ws, rfl, hgen, hown, hd2, hg2⟩
  have hbel2 : Below w.heap.size w w2 := hb1.grown hg2 hb1.size (fun g e => by injection e; omega)
  have hs2 := hg2.size
  have hwl := hgen.len
  obtain ⟨A2, c2, rfl, hS2, hB2, hlc, hcm⟩ := hown.form2 encD_len
  have HWS := Lib.hid hgen.size
  clear hgen hd1 hI hIb hg2 hb1
  go_upto_if 29 with fail
  go_cut [] (fun wx => VCutD w w.heap.size ws.length A2 wx)
  case first =>
    rcases Nat.lt_or_ge 0 ws.length with hpos | hpos
    · obtain ⟨b, off, rfl, hb, hcell⟩ := hS2 (List.length_pos_iff.1 hpos)
      have hbb0 := hB2 _ rfl
      have hbd : w.heap.size < b := by simp only at hbb0; omega
      have hbb : w.heap.size ≤ b := by omega
      obtain ⟨cur, hBk⟩ : ∃ cur, Blk w2 b 33 cur := by
        rcases hown.2 with ⟨hv, _⟩ | ⟨g, cap', cur, hv, _, hg, _⟩
        · cases hv
        · injection hv with hv
          injection hv with hv
          injection hv with h1 h2
          subst h1
          exact ⟨cur, hg⟩
      clear hcell
      go_wp2_with fail
      refine (next_any w.heap.size (0 + 32) _ _ (by omega) (by omega) (by omega) hd2).mono ?_
      rintro e w3 ⟨r, rfl, h0, h1, hd3', hg3⟩
      have hd3 := hd3'.mono (show 0 + 32 + 1 ≤ 40 by omega)
      have hBk3 := hBk.grown hg3 (by intro e; injection e; omega)
      have hS3 := hS2.advG hg3 (by intro a ha; injection ha with ha; subst ha; show b ≠ w.heap.size; omega)
      have hbel3 : Below w.heap.size w w3 := bel_only hbel2 hg3 (fun g e => by injection e; omega)
      have hb3 : b < w3.heap.size := Nat.lt_of_lt_of_le hb hg3.size
      obtain ⟨b9, off9, hA9, _, hcell⟩ := hS3 (List.length_pos_iff.1 hpos)
      injection hA9 with hA9
      injection hA9 with g1 g2
      subst g1 g2
      have HF := Lib.hid (fun i => hBk3.frozen i)
      have HC := Lib.hid hcell
      clear hcell hS2 hbel2 hBk hd2 hg3 hd3' hown hB2
      obtain ⟨j, rfl⟩ := Int.eq_ofNat_of_zero_le h0
      have hj : j < ws.length := by omega
      go_wp2_with fail
      refine (mod_any _ _ _ (by omega) (by omega)).mono ?_
      rintro e w' ⟨rfl, rfl⟩
      generalize hr : (fld % 6) = r
      have h0' : 0 ≤ r := by rw [← hr]; exact Int.emod_nonneg _ (by omega)
      have h1' : r < 6 := by rw [← hr]; exact Int.emod_lt_of_pos _ (by omega)
      clear hr
      have hcs : r = 0 ∨ r = 1 ∨ r = 2 ∨ r = 3 ∨ r = 4 ∨ r = 5 := by omega
      rcases hcs with rfl | rfl | rfl | rfl | rfl | rfl
      · have c1 := HC.out j _ (List.getElem?_eq_getElem hj) 1 _ rfl
        go_wp2_with fail
        have hN := SliceOf.new encI_len w3 [-1, 0, 99, 100] #[.int .i64 (-1), .int .i64 0, .int .i64 99, .int .i64 100] 3 rfl
        have hSW := hS3.advA (.cells #[.int .i64 (-1), .int .i64 0, .int .i64 99, .int .i64 100] 3)
        have cW := (World.cell?_alloc_past (w := w3) (Obj.cells #[.int .i64 (-1), .int .i64 0, .int .i64 99, .int .i64 100] 3) b (off + j * 6 + 1) hb3).trans c1
        have fW := (hBk3.alloc (Obj.cells #[.int .i64 (-1), .int .i64 0, .int .i64 99, .int .i64 100] 3)).frozen (off + j * 6 + 1)
        have hbelW := bel_alloc hbel3 (.cells #[.int .i64 (-1), .int .i64 0, .int .i64 99, .int .i64 100] 3)
        have hdW := hd3.alloc (.cells #[.int .i64 (-1), .int .i64 0, .int .i64 99, .int .i64 100] 3)
        generalize w3.alloc (Obj.cells _ _) = W at hN hSW cW fW hbelW hdW ⊢
        refine (mod_any _ _ _ (by omega) (by omega)).mono ?_
        rintro e w' ⟨rfl, rfl⟩
        have hq0 : 0 ≤ by_ % 4 := Int.emod_nonneg _ (by omega)
        have hq1 : by_ % 4 < 4 := Int.emod_lt_of_pos _ (by omega)
        obtain ⟨i, hi⟩ := Int.eq_ofNat_of_zero_le hq0
        rw [hi] at hq1 ⊢
        have hil : i < ([-1, 0, 99, 100]).length := by simp; omega
        obtain ⟨b', off', hA', _, hc'⟩ := hN.at_ hil
        injection hA' with hA'
        injection hA' with h3 h4
        subst h3 h4
        have hx := hc' 0 _ rfl
        simp only [Nat.add_zero, Nat.mul_one, Nat.zero_add] at hx
        clear hN hc' hi c1
        generalize ([-1, 0, 99, 100])[i]'hil = u at hx
        go_wp2_with fail
        go_meet
        have hfin := vcutD_set (f := 1) (x' := { ws[j] with rank := u }) hSW HWS.out hbelW hbb hbd hdW hj (by omega) rfl (fun i hi => by match i, hi with | 0, _ => rfl | 1, h => exact absurd rfl h | 2, _ => rfl | 3, _ => rfl | 4, _ => rfl | 5, _ => rfl | (n + 6), _ => rfl) (by simpa only [Nat.add_zero] using cW) (HWS.out ws[j] (List.getElem_mem hj))
        exact hfin
      · have c1 := HC.out j _ (List.getElem?_eq_getElem hj) 3 _ rfl
        go_wp2_with fail
        have hN := SliceOf.new encI_len w3 [-1, 0, 1000000000, 1000000001] #[.int .i64 (-1), .int .i64 0, .int .i64 1000000000, .int .i64 1000000001] 3 rfl
        have hSW := hS3.advA (.cells #[.int .i64 (-1), .int .i64 0, .int .i64 1000000000, .int .i64 1000000001] 3)
        have cW := (World.cell?_alloc_past (w := w3) (Obj.cells #[.int .i64 (-1), .int .i64 0, .int .i64 1000000000, .int .i64 1000000001] 3) b (off + j * 6 + 3) hb3).trans c1
        have fW := (hBk3.alloc (Obj.cells #[.int .i64 (-1), .int .i64 0, .int .i64 1000000000, .int .i64 1000000001] 3)).frozen (off + j * 6 + 3)
        have hbelW := bel_alloc hbel3 (.cells #[.int .i64 (-1), .int .i64 0, .int .i64 1000000000, .int .i64 1000000001] 3)
        have hdW := hd3.alloc (.cells #[.int .i64 (-1), .int .i64 0, .int .i64 1000000000, .int .i64 1000000001] 3)
        generalize w3.alloc (Obj.cells _ _) = W at hN hSW cW fW hbelW hdW ⊢
        refine (mod_any _ _ _ (by omega) (by omega)).mono ?_
        rintro e w' ⟨rfl, rfl⟩
        have hq0 : 0 ≤ by_ % 4 := Int.emod_nonneg _ (by omega)
        have hq1 : by_ % 4 < 4 := Int.emod_lt_of_pos _ (by omega)
        obtain ⟨i, hi⟩ := Int.eq_ofNat_of_zero_le hq0
        rw [hi] at hq1 ⊢
        have hil : i < ([-1, 0, 1000000000, 1000000001]).length := by simp; omega
        obtain ⟨b', off', hA', _, hc'⟩ := hN.at_ hil
        injection hA' with hA'
        injection hA' with h3 h4
        subst h3 h4
        have hx := hc' 0 _ rfl
        simp only [Nat.add_zero, Nat.mul_one, Nat.zero_add] at hx
        clear hN hc' hi c1
        generalize ([-1, 0, 1000000000, 1000000001])[i]'hil = u at hx
        go_wp2_with fail
        go_meet
        have hfin := vcutD_set (f := 3) (x' := { ws[j] with amount := u }) hSW HWS.out hbelW hbb hbd hdW hj (by omega) rfl (fun i hi => by match i, hi with | 0, _ => rfl | 1, _ => rfl | 2, _ => rfl | 3, h => exact absurd rfl h | 4, _ => rfl | 5, _ => rfl | (n + 6), _ => rfl) (by simpa only [Nat.add_zero] using cW) (HWS.out ws[j] (List.getElem_mem hj))
        exact hfin
      · have c1 := HC.out j _ (List.getElem?_eq_getElem hj) 4 _ rfl
        go_wp2_with fail
        have hN := SliceOf.new encI_len w3 [-1, 0, 1000000, 1000001] #[.int .i64 (-1), .int .i64 0, .int .i64 1000000, .int .i64 1000001] 3 rfl
        have hSW := hS3.advA (.cells #[.int .i64 (-1), .int .i64 0, .int .i64 1000000, .int .i64 1000001] 3)
        have cW := (World.cell?_alloc_past (w := w3) (Obj.cells #[.int .i64 (-1), .int .i64 0, .int .i64 1000000, .int .i64 1000001] 3) b (off + j * 6 + 4) hb3).trans c1
        have fW := (hBk3.alloc (Obj.cells #[.int .i64 (-1), .int .i64 0, .int .i64 1000000, .int .i64 1000001] 3)).frozen (off + j * 6 + 4)
        have hbelW := bel_alloc hbel3 (.cells #[.int .i64 (-1), .int .i64 0, .int .i64 1000000, .int .i64 1000001] 3)
        have hdW := hd3.alloc (.cells #[.int .i64 (-1), .int .i64 0, .int .i64 1000000, .int .i64 1000001] 3)
        generalize w3.alloc (Obj.cells _ _) = W at hN hSW cW fW hbelW hdW ⊢
        refine (mod_any _ _ _ (by omega) (by omega)).mono ?_
        rintro e w' ⟨rfl, rfl⟩
        have hq0 : 0 ≤ by_ % 4 := Int.emod_nonneg _ (by omega)
        have hq1 : by_ % 4 < 4 := Int.emod_lt_of_pos _ (by omega)
        obtain ⟨i, hi⟩ := Int.eq_ofNat_of_zero_le hq0
        rw [hi] at hq1 ⊢
        have hil : i < ([-1, 0, 1000000, 1000001]).length := by simp; omega
        obtain ⟨b', off', hA', _, hc'⟩ := hN.at_ hil
        injection hA' with hA'
        injection hA' with h3 h4
        subst h3 h4
        have hx := hc' 0 _ rfl
        simp only [Nat.add_zero, Nat.mul_one, Nat.zero_add] at hx
        clear hN hc' hi c1
        generalize ([-1, 0, 1000000, 1000001])[i]'hil = u at hx
        go_wp2_with fail
        go_meet
        have hfin := vcutD_set (f := 4) (x' := { ws[j] with rate := u }) hSW HWS.out hbelW hbb hbd hdW hj (by omega) rfl (fun i hi => by match i, hi with | 0, _ => rfl | 1, _ => rfl | 2, _ => rfl | 3, _ => rfl | 4, h => exact absurd rfl h | 5, _ => rfl | (n + 6), _ => rfl) (by simpa only [Nat.add_zero] using cW) (HWS.out ws[j] (List.getElem_mem hj))
        exact hfin
      · have c1 := HC.out j _ (List.getElem?_eq_getElem hj) 5 _ rfl
        go_wp2_with fail
        have hN := SliceOf.new encI_len w3 [-1, 0, 1000000000, 1000000001] #[.int .i64 (-1), .int .i64 0, .int .i64 1000000000, .int .i64 1000000001] 3 rfl
        have hSW := hS3.advA (.cells #[.int .i64 (-1), .int .i64 0, .int .i64 1000000000, .int .i64 1000000001] 3)
        have cW := (World.cell?_alloc_past (w := w3) (Obj.cells #[.int .i64 (-1), .int .i64 0, .int .i64 1000000000, .int .i64 1000000001] 3) b (off + j * 6 + 5) hb3).trans c1
        have fW := (hBk3.alloc (Obj.cells #[.int .i64 (-1), .int .i64 0, .int .i64 1000000000, .int .i64 1000000001] 3)).frozen (off + j * 6 + 5)
        have hbelW := bel_alloc hbel3 (.cells #[.int .i64 (-1), .int .i64 0, .int .i64 1000000000, .int .i64 1000000001] 3)
        have hdW := hd3.alloc (.cells #[.int .i64 (-1), .int .i64 0, .int .i64 1000000000, .int .i64 1000000001] 3)
        generalize w3.alloc (Obj.cells _ _) = W at hN hSW cW fW hbelW hdW ⊢
        refine (mod_any _ _ _ (by omega) (by omega)).mono ?_
        rintro e w' ⟨rfl, rfl⟩
        have hq0 : 0 ≤ by_ % 4 := Int.emod_nonneg _ (by omega)
        have hq1 : by_ % 4 < 4 := Int.emod_lt_of_pos _ (by omega)
        obtain ⟨i, hi⟩ := Int.eq_ofNat_of_zero_le hq0
        rw [hi] at hq1 ⊢
        have hil : i < ([-1, 0, 1000000000, 1000000001]).length := by simp; omega
        obtain ⟨b', off', hA', _, hc'⟩ := hN.at_ hil
        injection hA' with hA'
        injection hA' with h3 h4
        subst h3 h4
        have hx := hc' 0 _ rfl
        simp only [Nat.add_zero, Nat.mul_one, Nat.zero_add] at hx
        clear hN hc' hi c1
        generalize ([-1, 0, 1000000000, 1000000001])[i]'hil = u at hx
        go_wp2_with fail
        go_meet
        have hfin := vcutD_set (f := 5) (x' := { ws[j] with cap := u }) hSW HWS.out hbelW hbb hbd hdW hj (by omega) rfl (fun i hi => by match i, hi with | 0, _ => rfl | 1, _ => rfl | 2, _ => rfl | 3, _ => rfl | 4, _ => rfl | 5, h => exact absurd rfl h | (n + 6), _ => rfl) (by simpa only [Nat.add_zero] using cW) (HWS.out ws[j] (List.getElem_mem hj))
        exact hfin
      · have c1 := HC.out j _ (List.getElem?_eq_getElem hj) 0 _ rfl
        simp only [Nat.add_zero] at c1
        go_wp2_with fail
        have hN := SliceOf.new encS_len w3 vcodesD #[.string ⟨#[]⟩, .string ⟨#[97]⟩, .string ⟨#[122, 122]⟩, .string ⟨#[112, 108, 97, 110]⟩, .string ⟨#[76, 111, 97, 110]⟩] 9 rfl
        have hSW := hS3.advA (.cells #[.string ⟨#[]⟩, .string ⟨#[97]⟩, .string ⟨#[122, 122]⟩, .string ⟨#[112, 108, 97, 110]⟩, .string ⟨#[76, 111, 97, 110]⟩] 9)
        have cW := (World.cell?_alloc_past (w := w3) (Obj.cells #[.string ⟨#[]⟩, .string ⟨#[97]⟩, .string ⟨#[122, 122]⟩, .string ⟨#[112, 108, 97, 110]⟩, .string ⟨#[76, 111, 97, 110]⟩] 9) b (off + j * 6) hb3).trans c1
        have fW := (hBk3.alloc (Obj.cells #[.string ⟨#[]⟩, .string ⟨#[97]⟩, .string ⟨#[122, 122]⟩, .string ⟨#[112, 108, 97, 110]⟩, .string ⟨#[76, 111, 97, 110]⟩] 9)).frozen (off + j * 6)
        have hbelW := bel_alloc hbel3 (.cells #[.string ⟨#[]⟩, .string ⟨#[97]⟩, .string ⟨#[122, 122]⟩, .string ⟨#[112, 108, 97, 110]⟩, .string ⟨#[76, 111, 97, 110]⟩] 9)
        have hdW := hd3.alloc (.cells #[.string ⟨#[]⟩, .string ⟨#[97]⟩, .string ⟨#[122, 122]⟩, .string ⟨#[112, 108, 97, 110]⟩, .string ⟨#[76, 111, 97, 110]⟩] 9)
        generalize w3.alloc (Obj.cells _ _) = W at hN hSW cW fW hbelW hdW ⊢
        refine (mod_any _ _ _ (by omega) (by omega)).mono ?_
        rintro e w' ⟨rfl, rfl⟩
        have hq0 : 0 ≤ by_ % 5 := Int.emod_nonneg _ (by omega)
        have hq1 : by_ % 5 < 5 := Int.emod_lt_of_pos _ (by omega)
        obtain ⟨i, hi⟩ := Int.eq_ofNat_of_zero_le hq0
        rw [hi] at hq1 ⊢
        have hil : i < (vcodesD).length := by simp [vcodesD]; omega
        obtain ⟨b', off', hA', _, hc'⟩ := hN.at_ hil
        injection hA' with hA'
        injection hA' with h3 h4
        subst h3 h4
        have hx := hc' 0 _ rfl
        simp only [Nat.add_zero, Nat.mul_one, Nat.zero_add] at hx
        have hus : ((vcodesD)[i]'hil).size ≤ maxLen := vcodesD_size (List.getElem_mem hil)
        clear hN hc' hi c1
        generalize (vcodesD)[i]'hil = u at hx hus
        go_wp2_with fail
        go_meet
        have hfin := vcutD_set (f := 0) (x' := { ws[j] with code := u }) hSW HWS.out hbelW hbb hbd hdW hj (by omega) rfl (fun i hi => by match i, hi with | 0, h => exact absurd rfl h | 1, _ => rfl | 2, _ => rfl | 3, _ => rfl | 4, _ => rfl | 5, _ => rfl | (n + 6), _ => rfl) (by simpa only [Nat.add_zero] using cW) hus
        simpa only [Nat.add_zero] using hfin
      · go_wp2_with fail
        go_meet
        exact ⟨ws, rfl, hS3, HWS.out, hd3, hbel3⟩
    · go_wp2_with fail
      go_meet
      exact ⟨ws, rfl, hS2, HWS.out, hd2.mono (by omega), hbel2⟩
  case rest =>
    clear hS2 hd2 hbel2
    obtain ⟨zs, hzl, hSz, hzz, hdc, hbelc⟩ := hcut
    have HZZ := Lib.hid hzz
    clear hown hB2 HWS hzz
    generalize ws.length = n at *
    subst hzl
    have hvv : (validD xs == validD xs) = true := by simp
    have hvz : (validD zs == validD zs) = true := by simp
    have hvr : (recB es == recB es) = true := by simp
    have hsc := hbelc.size
    go_wp2_with fail
    refine (validD_any A cap xs _ (h.adv hbelc) HZ.out hl).mono ?_
    rintro e w3 ⟨rfl, hb3⟩
    have hbel3 := bel_adv hbelc hb3
    go_wp2_with fail
    refine (valid27_any A cap xs _ (h.adv hbel3) HZ.out hl).mono ?_
    rintro e w4 ⟨rfl, hb4⟩
    have hbel4 := bel_adv hbel3 hb4
    go_wp2_with fail
    refine (validD_any A2 c2 zs _ ((hSz.adv hb3).adv hb4) HZZ.out (by omega)).mono ?_
    rintro e w5 ⟨rfl, hb5⟩
    have hbel5 := bel_adv hbel4 hb5
    go_wp2_with fail
    refine (valid27_any A2 c2 zs _ (((hSz.adv hb3).adv hb4).adv hb5) HZZ.out (by omega)).mono ?_
    rintro e w6 ⟨rfl, hb6⟩
    have hbel6 := bel_adv hbel5 hb6
    go_wp2_with fail
    refine (rec_any B bcap es _ (he.adv hbel6) HEZ.out hel).mono ?_
    rintro e w7 ⟨rfl, hb7⟩
    have hbel7 := bel_adv hbel6 hb7
    go_wp2_with fail
    refine (rec27_any B bcap es _ (he.adv hbel7) HEZ.out hel).mono ?_
    rintro e w8 ⟨rfl, hb8⟩
    have hbel8 := bel_adv hbel7 hb8
    have hd8 := (((((hdc.grown (only_of_below hb3 none) (by intro g e; cases e)).grown (only_of_below hb4 none) (by intro g e; cases e)).grown (only_of_below hb5 none) (by intro g e; cases e)).grown (only_of_below hb6 none) (by intro g e; cases e)).grown (only_of_below hb7 none) (by intro g e; cases e)).grown (only_of_below hb8 none) (by intro g e; cases e)
    clear hb3 hb4 hb5 hb6 hb7 hb8 hdc hSz hbelc hbel3 hbel4 hbel5 hbel6 hbel7
    go_wp2_with fail
    refine (record_any w.heap.size 40 _ (by omega) hd8).mono ?_
    rintro e w9 ⟨v9, rs, rfl, hgr, hown9, hd9, hg9⟩
    obtain ⟨A9, c9, rfl, hS9, hB9, hlc9, hcm9⟩ := hown9.form2 encE_len
    have hbel9 : Below w.heap.size w w9 := bel_only hbel8 hg9 (fun g e => by injection e; omega)
    have hrv := hgr.valid
    have hrl := hgr.len
    have HRZ := Lib.hid hgr.size
    clear hown9 hgr hd9 hg9
    go_wp2_with fail
    refine (rec_any A9 c9 rs _ hS9 HRZ.out (by omega)).mono ?_
    rintro e w10 ⟨rfl, hb10⟩
    have hbel10 := bel_adv hbel9 hb10
    go_wp2_with fail
    refine (awake_any _).mono ?_
    rintro e w11 ⟨rfl, hb11⟩
    go_wp2
    go_ret
    exact ⟨rfl, bel_adv hbel10 hb11⟩

end Go.Proofs.Ytcpkdpflkjjlcaa
