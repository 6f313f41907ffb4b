/- The walk of payrolllaw26.WageValid: it returns true and turns nothing that was there. Conditions: as stated. -/
import Derived.Test.YtlfefcfddpmccaaAwake
namespace Go.Proofs.Ytlfefcfddpmccaa
open Go.RowKit

/-- One cell of one element is written. -/
theorem SliceOf.set_ {α : Type} {enc : α → List Value} {k : Nat} {w : World} {B b off : Nat} {xs : List α} (hs : SliceOf enc k w B (some ⟨b, off, none⟩) xs) (hk : ∀ x, (enc x).length = k) {j f : Nat} (hj : j < xs.length) {v u : Value} {x' : α}
    (hf : f < k) (hv : (enc x')[f]? = some v) (hother : ∀ i, i ≠ f → (enc x')[i]? = (enc xs[j])[i]?) (hu : w.cell? ⟨b, off + j * k + f, none⟩ = some u) :
    SliceOf enc k (w.setCell ⟨b, off + j * k + f, none⟩ v) B (some ⟨b, off, none⟩) (xs.set j x') := by
  intro _
  have hne : xs ≠ [] := by intro e; subst e; simp at hj
  obtain ⟨b', off', hA, hb, hc⟩ := hs hne
  injection hA with hA
  injection hA with h1 h2
  subst h1 h2
  refine ⟨b, off, rfl, hb, fun i x hi l y hy => ?_⟩
  have hl : l < k := by have := (List.getElem?_eq_some_iff.1 hy).1; rwa [hk] at this
  by_cases hij : i = j
  · subst hij
    have hx : x = x' := by
      have : (xs.set i x')[i]? = some x' := by simp [hj]
      rw [this] at hi; injection hi with hi; exact hi.symm
    subst hx
    by_cases hlf : l = f
    · subst hlf
      rw [hv] at hy
      injection hy with hy
      subst hy
      exact World.cell?_setCell_same w _ _ hu
    · rw [World.cell?_setCell_other _ _ _ _ (by intro e; injection e; omega)]
      exact hc i _ (List.getElem?_eq_getElem hj) l y (by rw [← hother l hlf]; exact hy)
  · have hi' : xs[i]? = some x := by rw [List.getElem?_set_ne (fun e => hij e.symm)] at hi; exact hi
    rw [World.cell?_setCell_other _ _ _ _ (by
      intro e
      injection e with _ e
      rcases Nat.lt_or_ge i j with h | h
      · have : (i + 1) * k ≤ j * k := Nat.mul_le_mul_right k h
        rw [Nat.succ_mul] at this; omega
      · have hji : j + 1 ≤ i := by omega
        have : (j + 1) * k ≤ i * k := Nat.mul_le_mul_right k hji
        rw [Nat.succ_mul] at this; omega)]
    exact hc i x hi' l y hy

/-- What stands before the last statement: the drawn list, one field changed perhaps. -/
def VCut (w : World) (n : Nat) (A : Option Addr) (wx : World) : Prop := ∃ zs : List WageT, zs.length = n ∧ SliceOf encW 6 wx wx.heap.size A zs ∧ (∀ z ∈ zs, z.code.size ≤ maxLen) ∧ Below w.heap.size w wx

theorem vcut_set {w W : World} {b off j f : Nat} {zs : List WageT} (hS : SliceOf encW 6 W W.heap.size (some ⟨b, off, none⟩) zs) (hz : ∀ z ∈ zs, z.code.size ≤ maxLen) (hbel : Below w.heap.size w W) (hbb : w.heap.size ≤ b) (hj : j < zs.length) {v u : Value} {x' : WageT}
    (hf : f < 6) (hv : (encW x')[f]? = some v) (hother : ∀ i, i ≠ f → (encW x')[i]? = (encW zs[j])[i]?) (hu : W.cell? ⟨b, off + j * 6 + f, none⟩ = some u) (hx : x'.code.size ≤ maxLen) :
    VCut w zs.length (some ⟨b, off, none⟩) (W.setCell ⟨b, off + j * 6 + f, none⟩ v) := by
  have h1 := hS.set_ encW_len hj hf hv hother hu
  refine ⟨zs.set j x', by simp, h1.more (by simp), fun z hzz => ?_, hbel.setCell hbb v⟩
  rcases List.mem_or_eq_of_mem_set hzz with h | h
  · exact hz z h
  · rw [h]; exact hx
theorem VCut.alloc {w W : World} {n : Nat} {A : Option Addr} (h : VCut w n A W) (o : Obj) : VCut w n A (W.alloc o) := by
  obtain ⟨zs, h1, h2, h3, h4⟩ := h
  exact ⟨zs, h1, (h2.below ((Below.refl _ _).alloc (Nat.le_refl _) o)).more (by simp), h3, h4.alloc h4.size o⟩

theorem codes4_size {c : ByteArray} (h : c ∈ codes4) : c.size ≤ maxLen := by
  have : ∀ c ∈ codes4, c.size ≤ 24 := by decide
  exact Nat.le_trans (this c h) (by unfold maxLen; omega)

def vcodes : List ByteArray := [⟨#[]⟩, ⟨#[97]⟩, ⟨#[122, 122]⟩, ⟨#[67, 97, 114]⟩, ⟨#[97, 98, 99, 100, 101, 102, 103, 104, 105, 106, 107, 108, 109, 110, 111, 112, 113, 114, 115, 116, 117, 118, 119, 120, 121]⟩, ⟨#[98, 111, 110, 117, 115]⟩]
theorem vcodes_size {c : ByteArray} (h : c ∈ vcodes) : c.size ≤ maxLen := by
  have : ∀ c ∈ vcodes, c.size ≤ 25 := by decide
  exact Nat.le_trans (this c h) (by unfold maxLen; omega)

set_option maxRecDepth 100000 in
set_option maxHeartbeats 4000000 in
theorem valid_walk (A B : Option Addr) (cap lcap : Nat) (xs : List WageT) (l : List Int) (at_ fld by_ : Int) (w : World) (h : SliceOf encW 6 w w.heap.size A xs) (hz : ∀ x ∈ xs, x.code.size ≤ maxLen) (hl : xs.length ≤ 9223372036854775807)
    (hI : SliceOf encI 1 w w.heap.size B l) (hIl : l.length ≤ 9223372036854775807) (hIb : ∀ x ∈ l, I64 x) :
    Calls Try.prog 3 #[.slice A xs.length cap, .slice B l.length lcap, .int .i64 at_, .int .i64 fld, .int .i64 by_] w fun e w' => e = .returned (.bool true) ∧ Below w.heap.size w w' := by
  have HZ := Lib.hid hz; clear hz
  by_cases hsh : shortB xs = true
  · have hlen : xs.length ≤ 70 := by simp [shortB] at hsh; exact hsh.1
    go_enter Try.func3, Try.ntmps3
    go_wp2_with (go_at_call 10; refine (short_any A cap xs _ _ h hl).mono ?_; rintro e w' ⟨rfl, rfl⟩)
    refine (new_any B l lcap _ hI hIl hIb).mono ?_
    rintro e w1 ⟨rfl, hd1, hb1⟩
    go_wp2_with fail
    refine (wages_any w.heap.size 0 _ (by omega) hd1).mono ?_
    rintro e w2 ⟨v2, ws, rfl, hgen, hown, hd2, hg2⟩
    have hs1 := hd1.lt
    have hbel2 : Below w.heap.size w w2 := hb1.grown hg2 hb1.size (fun g e => by injection e; omega)
    have hs2 := hg2.size
    have hws : ∀ x ∈ ws, x.code.size ≤ maxLen := fun x hx => codes4_size (hgen.ok x hx).code
    have hwl := hgen.len
    obtain ⟨A2, c2, rfl, hS2, hB2, hlc, hcm⟩ := hown.form2 encW_len
    have HWS := Lib.hid hws
    clear hws hgen hd1 hd2 hI hIb hg2 hb1
    go_upto_if 22 with fail
    go_cut [] (fun wx => VCut w ws.length A2 wx)
    case first =>
      rcases Nat.lt_or_ge 0 ws.length with hpos | hpos
      · obtain ⟨b, off, rfl, hb, hcell⟩ := hS2 (List.length_pos_iff.1 hpos)
        have hbb := hB2 _ rfl
        simp only at hbb
        obtain ⟨cur, hBk⟩ : ∃ cur, Blk w2 b 31 cur := by
          rcases hown.2 with ⟨hv, _⟩ | ⟨g, cap', cur, hv, _, hg, _⟩
          · cases hv
          · injection hv with hv
            injection hv with hv
            injection hv with h1 h2
            subst h1
            exact ⟨cur, hg⟩
        have HF := Lib.hid (fun i => hBk.frozen i)
        have HC := Lib.hid hcell
        clear hcell
        go_wp2_with fail
        refine (mod_any _ _ _ (by omega) (by omega)).mono ?_
        rintro e w' ⟨rfl, rfl⟩
        generalize hr : (_ % (ws.length : Int)) = r
        have h0 : 0 ≤ r := by rw [← hr]; exact Int.emod_nonneg _ (by omega)
        have h1 : r < ws.length := by rw [← hr]; exact Int.emod_lt_of_pos _ (by omega)
        obtain ⟨j, rfl⟩ := Int.eq_ofNat_of_zero_le h0
        have hj : j < ws.length := by omega
        clear hr
        go_wp2_with fail
        refine (mod_any _ _ _ (by omega) (by omega)).mono ?_
        rintro e w' ⟨rfl, rfl⟩
        generalize hr : (fld % 5) = r
        have h0' : 0 ≤ r := by rw [← hr]; exact Int.emod_nonneg _ (by omega)
        have h1' : r < 5 := by rw [← hr]; exact Int.emod_lt_of_pos _ (by omega)
        clear hr
        have hcs : r = 0 ∨ r = 1 ∨ r = 2 ∨ r = 3 ∨ r = 4 := by omega
        rcases hcs with rfl | rfl | rfl | rfl | rfl
        · have c1 := HC.out j _ (List.getElem?_eq_getElem hj) 1 _ rfl
          have f1 := HF.out (off + j * 6 + 1)
          go_wp2_with fail
          refine (mod_any _ _ _ (by omega) (by omega)).mono ?_
          rintro e w' ⟨rfl, rfl⟩
          have hq0 : 0 ≤ by_ % 5 := Int.emod_nonneg _ (by omega)
          have hq1 : by_ % 5 < 5 := Int.emod_lt_of_pos _ (by omega)
          generalize by_ % 5 = q at *
          go_wp2_with fail
          go_meet
          exact vcut_set (x' := { ws[j] with kind := q - 1 }) hS2 HWS.out hbel2 (by omega) hj (by omega) rfl (fun i hi => by match i, hi with | 0, _ => rfl | 1, h => exact absurd rfl h | 2, _ => rfl | 3, _ => rfl | 4, _ => rfl | 5, _ => rfl | (n + 6), _ => rfl) c1 (HWS.out ws[j] (List.getElem_mem hj))
        · have c1 := HC.out j _ (List.getElem?_eq_getElem hj) 5 _ rfl
          go_wp2_with fail
          have hN := SliceOf.new encI_len w2 [999, 1000, 9999, 10000, by_] #[.int .i64 999, .int .i64 1000, .int .i64 9999, .int .i64 10000, .int .i64 by_] 3 rfl
          have hSW : SliceOf encW 6 (w2.alloc (Obj.cells #[.int .i64 999, .int .i64 1000, .int .i64 9999, .int .i64 10000, .int .i64 by_] 3)) (w2.alloc (Obj.cells #[.int .i64 999, .int .i64 1000, .int .i64 9999, .int .i64 10000, .int .i64 by_] 3)).heap.size (some ⟨b, off, none⟩) ws := (hS2.below ((Below.refl _ _).alloc (Nat.le_refl _) _)).more (by simp)
          have cW := (World.cell?_alloc_past (w := w2) (Obj.cells #[.int .i64 999, .int .i64 1000, .int .i64 9999, .int .i64 10000, .int .i64 by_] 3) b (off + j * 6 + 5) hb).trans c1
          have fW := (hBk.alloc (Obj.cells #[.int .i64 999, .int .i64 1000, .int .i64 9999, .int .i64 10000, .int .i64 by_] 3)).frozen (off + j * 6 + 5)
          have hbelW : Below w.heap.size w (w2.alloc (Obj.cells #[.int .i64 999, .int .i64 1000, .int .i64 9999, .int .i64 10000, .int .i64 by_] 3)) := hbel2.alloc hbel2.size _
          generalize w2.alloc (Obj.cells _ _) = W at hN hSW cW fW hbelW ⊢
          refine (mod_any _ _ _ (by omega) (by omega)).mono ?_
          rintro e w' ⟨rfl, rfl⟩
          have hq0 : 0 ≤ by_ % 5 := Int.emod_nonneg _ (by omega)
          have hq1 : by_ % 5 < 5 := Int.emod_lt_of_pos _ (by omega)
          obtain ⟨i, hi⟩ := Int.eq_ofNat_of_zero_le hq0
          rw [hi] at hq1 ⊢
          have hil : i < ([999, 1000, 9999, 10000, by_]).length := by simp; omega
          obtain ⟨b', off', hA', _, hc'⟩ := hN.at_ hil
          injection hA' with hA'
          injection hA' with h3 h4
          subst h3 h4
          have hx := hc' 0 _ rfl
          simp only [Nat.add_zero, Nat.mul_one, Nat.zero_add] at hx
          skip
          clear hN hc' hi c1
          generalize ([999, 1000, 9999, 10000, by_])[i]'hil = u at hx
          have cW' := cW
          skip
          go_wp2_with fail
          go_meet
          have hfin := vcut_set (f := 5) (x' := { ws[j] with account := u }) hSW HWS.out hbelW (by omega) hj (by omega) rfl (fun i hi => by match i, hi with | 0, _ => rfl | 1, _ => rfl | 2, _ => rfl | 3, _ => rfl | 4, _ => rfl | 5, h => exact absurd rfl h | (n + 6), _ => rfl) cW (HWS.out ws[j] (List.getElem_mem hj))
          exact hfin
        · have c1 := HC.out j _ (List.getElem?_eq_getElem hj) 0 _ rfl
          go_wp2_with fail
          have hN := SliceOf.new encS_len w2 vcodes #[.string ⟨#[]⟩, .string ⟨#[97]⟩, .string ⟨#[122, 122]⟩, .string ⟨#[67, 97, 114]⟩, .string ⟨#[97, 98, 99, 100, 101, 102, 103, 104, 105, 106, 107, 108, 109, 110, 111, 112, 113, 114, 115, 116, 117, 118, 119, 120, 121]⟩, .string ⟨#[98, 111, 110, 117, 115]⟩] 9 rfl
          have hSW : SliceOf encW 6 (w2.alloc (Obj.cells #[.string ⟨#[]⟩, .string ⟨#[97]⟩, .string ⟨#[122, 122]⟩, .string ⟨#[67, 97, 114]⟩, .string ⟨#[97, 98, 99, 100, 101, 102, 103, 104, 105, 106, 107, 108, 109, 110, 111, 112, 113, 114, 115, 116, 117, 118, 119, 120, 121]⟩, .string ⟨#[98, 111, 110, 117, 115]⟩] 9)) (w2.alloc (Obj.cells #[.string ⟨#[]⟩, .string ⟨#[97]⟩, .string ⟨#[122, 122]⟩, .string ⟨#[67, 97, 114]⟩, .string ⟨#[97, 98, 99, 100, 101, 102, 103, 104, 105, 106, 107, 108, 109, 110, 111, 112, 113, 114, 115, 116, 117, 118, 119, 120, 121]⟩, .string ⟨#[98, 111, 110, 117, 115]⟩] 9)).heap.size (some ⟨b, off, none⟩) ws := (hS2.below ((Below.refl _ _).alloc (Nat.le_refl _) _)).more (by simp)
          have cW := (World.cell?_alloc_past (w := w2) (Obj.cells #[.string ⟨#[]⟩, .string ⟨#[97]⟩, .string ⟨#[122, 122]⟩, .string ⟨#[67, 97, 114]⟩, .string ⟨#[97, 98, 99, 100, 101, 102, 103, 104, 105, 106, 107, 108, 109, 110, 111, 112, 113, 114, 115, 116, 117, 118, 119, 120, 121]⟩, .string ⟨#[98, 111, 110, 117, 115]⟩] 9) b (off + j * 6 + 0) hb).trans c1
          have fW := (hBk.alloc (Obj.cells #[.string ⟨#[]⟩, .string ⟨#[97]⟩, .string ⟨#[122, 122]⟩, .string ⟨#[67, 97, 114]⟩, .string ⟨#[97, 98, 99, 100, 101, 102, 103, 104, 105, 106, 107, 108, 109, 110, 111, 112, 113, 114, 115, 116, 117, 118, 119, 120, 121]⟩, .string ⟨#[98, 111, 110, 117, 115]⟩] 9)).frozen (off + j * 6 + 0)
          have hbelW : Below w.heap.size w (w2.alloc (Obj.cells #[.string ⟨#[]⟩, .string ⟨#[97]⟩, .string ⟨#[122, 122]⟩, .string ⟨#[67, 97, 114]⟩, .string ⟨#[97, 98, 99, 100, 101, 102, 103, 104, 105, 106, 107, 108, 109, 110, 111, 112, 113, 114, 115, 116, 117, 118, 119, 120, 121]⟩, .string ⟨#[98, 111, 110, 117, 115]⟩] 9)) := hbel2.alloc hbel2.size _
          generalize w2.alloc (Obj.cells _ _) = W at hN hSW cW fW hbelW ⊢
          refine (mod_any _ _ _ (by omega) (by omega)).mono ?_
          rintro e w' ⟨rfl, rfl⟩
          have hq0 : 0 ≤ by_ % 6 := Int.emod_nonneg _ (by omega)
          have hq1 : by_ % 6 < 6 := Int.emod_lt_of_pos _ (by omega)
          obtain ⟨i, hi⟩ := Int.eq_ofNat_of_zero_le hq0
          rw [hi] at hq1 ⊢
          have hil : i < (vcodes).length := by simp [vcodes]; omega
          obtain ⟨b', off', hA', _, hc'⟩ := hN.at_ hil
          injection hA' with hA'
          injection hA' with h3 h4
          subst h3 h4
          have hx := hc' 0 _ rfl
          simp only [Nat.add_zero, Nat.mul_one, Nat.zero_add] at hx
          have hus : ((vcodes)[i]'hil).size ≤ maxLen := vcodes_size (List.getElem_mem hil)
          clear hN hc' hi c1
          generalize (vcodes)[i]'hil = u at hx hus
          have cW' := cW
          simp only [Nat.add_zero] at cW' fW
          go_wp2_with fail
          go_meet
          have hfin := vcut_set (f := 0) (x' := { ws[j] with code := u }) hSW HWS.out hbelW (by omega) hj (by omega) rfl (fun i hi => by match i, hi with | 0, h => exact absurd rfl h | 1, _ => rfl | 2, _ => rfl | 3, _ => rfl | 4, _ => rfl | 5, _ => rfl | (n + 6), _ => rfl) cW hus
          simpa only [Nat.add_zero] using hfin
        · have c1 := HC.out j _ (List.getElem?_eq_getElem hj) 4 _ rfl
          have f1 := HF.out (off + j * 6 + 4)
          go_wp2_with fail
          go_meet
          exact vcut_set (x' := { ws[j] with attachable := !ws[j].attachable }) hS2 HWS.out hbel2 (by omega) hj (by omega) rfl (fun i hi => by match i, hi with | 0, _ => rfl | 1, _ => rfl | 2, _ => rfl | 3, _ => rfl | 4, h => exact absurd rfl h | 5, _ => rfl | (n + 6), _ => rfl) c1 (HWS.out ws[j] (List.getElem_mem hj))
        · go_wp2_with fail
          go_meet
          exact ⟨ws, rfl, hS2, HWS.out, hbel2⟩
      · go_wp2_with fail
        go_meet
        exact ⟨ws, rfl, hS2, HWS.out, hbel2⟩
    case rest =>
      obtain ⟨zs, hzl, hSz, hzz, hbelc⟩ := hcut
      have HZZ := Lib.hid hzz
      clear hown hS2 hB2 HWS hzz
      generalize ws.length = n at *
      subst hzl
      have hvv : (validB xs == validB xs) = true := by simp
      have hvz : (validB zs == validB zs) = true := by simp
      have hsc := hbelc.size
      go_wp2_with fail
      refine (valid_any A cap xs _ ((h.below hbelc).more hsc) HZ.out hl).mono ?_
      rintro e w3 ⟨rfl, hb3⟩
      have hbel3 := below_size hbelc hb3 hsc
      have hS3 := (hSz.below hb3).more hb3.size
      have hsc3 := hbel3.size
      go_wp2_with fail
      refine (valid26_any A cap xs _ ((h.below hbel3).more hsc3) HZ.out hl).mono ?_
      rintro e w4 ⟨rfl, hb4⟩
      have hbel4 := below_size hbel3 hb4 hsc3
      have hS4 := (hS3.below hb4).more hb4.size
      have hsc4 := hbel4.size
      go_wp2_with fail
      refine (valid_any A2 c2 zs _ hS4 HZZ.out (by omega)).mono ?_
      rintro e w5 ⟨rfl, hb5⟩
      have hbel5 := below_size hbel4 hb5 hsc4
      have hS5 := (hS4.below hb5).more hb5.size
      have hsc5 := hbel5.size
      go_wp2_with fail
      refine (valid26_any A2 c2 zs _ hS5 HZZ.out (by omega)).mono ?_
      rintro e w6 ⟨rfl, hb6⟩
      have hbel6 := below_size hbel5 hb6 hsc5
      go_wp2_with fail
      refine (awake_any _).mono ?_
      rintro e w7 ⟨rfl, hb7⟩
      go_wp2
      go_ret
      exact ⟨rfl, below_size hbel6 hb7 hbel6.size⟩
  · have hsh' : shortB xs = false := by simpa using hsh
    clear hsh
    go_enter Try.func3, Try.ntmps3
    go_wp2_with (go_at_call 10; refine (short_any A cap xs _ _ h hl).mono ?_; rintro e w' ⟨rfl, rfl⟩)
    refine (awake_any _).mono ?_
    rintro e w5 ⟨rfl, hb5⟩
    go_wp2
    go_ret
    exact ⟨rfl, hb5⟩

end Go.Proofs.Ytlfefcfddpmccaa
