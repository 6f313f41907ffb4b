/- Contracts of payrollref26.sums and Merge. Conditions: the slice's length fits an int, strings' lengths fit the model. -/
import Derived.Test.YtlfefcfddpmccaaPut
namespace Go.Proofs.Ytlfefcfddpmccaa
open Go.RowKit

def sumsP (l : List Elem) : List Elem := l.foldl put []
def preErr (l : List Elem) : Int := if 128 < l.length then 3 else if l.any (fun x => !nameB x.code) then 7 else if l.any (fun x => !amtB x.amount) then 2 else if (sumsP l).any (fun x => !amtB x.amount) then 4 else 0
def sumsR (l : List Elem) : List Elem := if preErr l = 0 then sumsP l else []
def nz (x : Elem) : Bool := x.amount != 0
def mergeR (l : List Elem) : List Elem := if preErr l = 0 then (sumsP l).filter nz else []

theorem sumsP_snoc (l : List Elem) (x : Elem) : sumsP (l ++ [x]) = put (sumsP l) x := by simp [sumsP, List.foldl_append]
def Bdd (B : Int) (l : List Elem) : Prop := ∀ x ∈ l, -B ≤ x.amount ∧ x.amount ≤ B
theorem Bdd.put {B C : Int} {l : List Elem} {e : Elem} (h : Bdd B l) (hB : 0 ≤ B) (hC : 0 ≤ C) (h1 : -C ≤ e.amount) (h2 : e.amount ≤ C) : Bdd (B + C) (put l e) := by
  induction l with
  | nil => intro x hx; simp [Go.Proofs.Ytlfefcfddpmccaa.put] at hx; subst hx; omega
  | cons a l ih =>
    have ha := h a (by simp)
    have hl : Bdd B l := fun x hx => h x (by simp [hx])
    intro x hx
    rw [Go.Proofs.Ytlfefcfddpmccaa.put] at hx
    split at hx
    · rcases List.mem_cons.1 hx with rfl | hx
      · omega
      · exact ih hl x hx
    · split at hx
      · rcases List.mem_cons.1 hx with rfl | hx
        · show -(B + C) ≤ e.amount + a.amount ∧ e.amount + a.amount ≤ B + C
          omega
        · have := hl x hx; omega
      · rcases List.mem_cons.1 hx with rfl | hx
        · omega
        · have := h x hx; omega
theorem put_length (l : List Elem) (e : Elem) : (put l e).length ≤ l.length + 1 := by
  induction l with
  | nil => simp [put]
  | cons a l ih =>
    rw [put]
    split
    · simp; omega
    · split <;> simp

theorem foldl_put_length (l : List Elem) : ∀ acc : List Elem, (l.foldl put acc).length ≤ acc.length + l.length := by
  induction l with
  | nil => intro acc; simp
  | cons a l ih => intro acc; have h1 := ih (put acc a); have h2 := put_length acc a; simp; omega
theorem sumsP_length (l : List Elem) : (sumsP l).length ≤ l.length := by
  have := foldl_put_length l []
  simpa [sumsP] using this

theorem Own.form2 {α : Type} {enc : α → List Value} {k : Nat} {e : TypeId} {w : World} {base : Nat} {v : Value} {xs : List α} (h : Own enc k e w base v xs) (hk : ∀ x, (enc x).length = k) :
    ∃ A c, v = .slice A xs.length c ∧ SliceOf enc k w w.heap.size A xs ∧ (∀ a, A = some a → base ≤ a.block) ∧ xs.length ≤ c ∧ c ≤ maxLen := by
  obtain ⟨A, c, hv, hs, hb, hl⟩ := h.form hk
  refine ⟨A, c, hv, hs, hb, ?_⟩
  rcases h.2 with ⟨rfl, h0⟩ | ⟨g, cap, cur, rfl, _, _, hn, hm, _⟩
  · injection hv with _ h1 h2
    subst h2
    exact ⟨by omega, by unfold maxLen; omega⟩
  · injection hv with _ _ h2
    subst h2
    exact ⟨hn, hm⟩
theorem below_size {B : Nat} {a b c : World} (h : Below B a b) (hb : Below b.heap.size b c) (hB : B ≤ b.heap.size) : Below B a c := h.trans (hb.mono hB)

set_option maxRecDepth 100000 in
set_option maxHeartbeats 4000000 in
theorem sums26_any (A : Option Addr) (cap : Nat) (xs : List Elem) (w : World) (h : SliceOf encE 2 w w.heap.size A xs) (hz : ∀ x ∈ xs, x.code.size ≤ maxLen) (hl : xs.length ≤ 9223372036854775807) :
    Calls Try.prog 37 #[.slice A xs.length cap] w fun r w' => ∃ v, r = .returned (.tuple #[v, .int .i64 (preErr xs)]) ∧ Own encE 2 44 w' w.heap.size v (sumsR xs) ∧ Below w.heap.size w w' := by
  have HZ := Lib.hid hz; clear hz
  have fail_ : ∀ (n : Int) (W : World), n ≠ 0 → preErr xs = n → Below w.heap.size w W → ∃ v, Ending.returned (.tuple #[.slice none 0 0, .int .i64 n]) = .returned (.tuple #[v, .int .i64 (preErr xs)]) ∧ Own encE 2 44 W w.heap.size v (sumsR xs) ∧ Below w.heap.size w W := by
    intro n W hn he hb
    refine ⟨.slice none 0 0, by rw [he], ?_, hb⟩
    rw [sumsR, if_neg (by rw [he]; exact hn)]
    exact Own.nil_ _ _
  have FAIL := Lib.hid fail_
  clear fail_
  by_cases hlen : 128 < xs.length
  · have HP : Hid (preErr xs = 3) := by simp only [Hid, preErr, if_pos hlen]
    go_enter Try.func37, Try.ntmps37
    go_wp2
    go_ret2
    exact FAIL.out 3 _ (by omega) HP.out (Below.refl _ _)
  · have hlen' : xs.length ≤ 128 := by omega
    clear hlen hl
    go_enter Try.func37, Try.ntmps37
    go_wp2
    go_loopw [4] (fun i wr => ∃ k : Nat, k ≤ xs.length ∧ i = .int .i64 k ∧ Hid (∀ j, (hj : j < xs.length) → j < k → nameB xs[j].code = true) ∧ Below w.heap.size w wr) (fun i _ => xs.length - (intOf i).toNat)
    case atStart => exact ⟨0, by omega, rfl, fun j _ hj => absurd hj (by omega), Below.refl _ _⟩
    case round =>
      obtain ⟨k, hk, rfl, hall, hbel⟩ := hrel
      have hbs := hbel.size
      by_cases hlt : k < xs.length
      · obtain ⟨b, off, rfl, hb, hc⟩ := (h.below hbel).at_ hlt
        have c0 := hc 0 _ rfl
        simp only [Nat.add_zero] at c0
        clear hc
        have hzk := HZ.out _ (List.getElem_mem hlt)
        go_wp2_with fail
        refine (isName17_any _ _ hzk).mono ?_
        rintro e w1 ⟨rfl, hb1⟩
        have hbel1 := below_size hbel hb1 hbs
        by_cases hn : nameB xs[k].code = true
        · go_wp2
          go_roundw
          case rel =>
            refine ⟨k + 1, by omega, by go_num, fun j hj hjk => ?_, hbel1⟩
            rcases Nat.lt_or_ge j k with h1 | h1
            · exact hall.out j hj h1
            · obtain rfl : j = k := by omega
              exact hn
          case measure => simp [intOf]; omega
        · have hn' : nameB xs[k].code = false := by simpa using hn
          have HP : Hid (preErr xs = 7) := by
            have h7 : xs.any (fun x => !nameB x.code) = true := List.any_eq_true.2 ⟨xs[k], List.getElem_mem _, by simp [hn']⟩
            simp only [Hid, preErr, if_neg (show ¬ 128 < xs.length by omega), h7, if_true]
          clear hn
          go_wp2
          go_ret2
          exact FAIL.out 7 _ (by omega) HP.out hbel1
      · have h7 : Hid (xs.any (fun x => !nameB x.code) = false) := by
          rw [Hid, List.any_eq_false]
          intro x hx
          obtain ⟨j, hj, rfl⟩ := List.mem_iff_getElem.1 hx
          simp [hall.out j hj (by omega)]
        obtain ⟨wo, rfl⟩ : ∃ wo : World, wo = wr := ⟨_, rfl⟩
        go_wp2
        clear hall hk hlt
        go_loopw [5, 6] (fun v i wr => ∃ k : Nat, k ≤ xs.length ∧ i = .int .i64 k ∧ Hid (∀ j, (hj : j < xs.length) → j < k → amtB xs[j].amount = true) ∧ Own encE 2 44 wr w.heap.size v (sumsP (xs.take k)) ∧ Bdd (k * 1000000000) (sumsP (xs.take k)) ∧ (sumsP (xs.take k)).length ≤ k ∧ Below w.heap.size w wr) (fun _ i _ => xs.length - (intOf i).toNat)
        case atStart => exact ⟨0, by omega, rfl, fun j _ hj => absurd hj (by omega), Own.nil_ _ _, (fun x hx => by simp [sumsP] at hx), by simp [sumsP], hbel⟩
        case round =>
          obtain ⟨k, hk, rfl, hall, hown, hbd, hlk, hbel⟩ := hrel
          have hbs := hbel.size
          obtain ⟨A5, c5, rfl, hS5, hB5, hlc5, hcm5⟩ := hown.form2 encE_len
          by_cases hlt : k < xs.length
          · obtain ⟨b, off, rfl, hb, hc⟩ := (h.below hbel).at_ hlt
            have c0 := hc 0 _ rfl
            have c1 := hc 1 _ rfl
            simp only [Nat.add_zero] at c0
            clear hc
            by_cases hn : amtB xs[k].amount = true
            · have hn2 : -1000000000 ≤ xs[k].amount ∧ xs[k].amount ≤ 1000000000 := by simpa [amtB] using hn
              have HN := Lib.hid hn
              go_wp2_with (go_at_call 39; refine (amount26_any _ _).mono ?_; rintro e w' ⟨rfl, rfl⟩)
              refine (put_any A5 c5 (sumsP (xs.take k)) xs[k] _ hS5 hlc5 hcm5 (by omega) (fun x hx => by have := hbd x hx; omega) (by omega) (by omega)).mono ?_
              rintro e w1 ⟨v1, rfl, hown1, hb1⟩
              have hbel1 := below_size hbel hb1 hbs
              have e1 : put (sumsP (xs.take k)) xs[k] = sumsP (xs.take (k + 1)) := by rw [List.take_succ_eq_append_getElem hlt, sumsP_snoc]
              have hbd1 := hbd.put (C := 1000000000) (e := xs[k]) (by omega) (by omega) (by omega) (by omega)
              have hln1 := put_length (sumsP (xs.take k)) xs[k]
              rw [e1] at hown1 hbd1 hln1
              have E1 := Lib.hid e1
              clear e1
              go_wp2
              go_roundw
              case rel =>
                refine ⟨k + 1, by omega, by go_num, fun j hj hjk => ?_, hown1.weaken hbs, ?_, by omega, hbel1⟩
                · rcases Nat.lt_or_ge j k with h1 | h1
                  · exact hall.out j hj h1
                  · obtain rfl : j = k := by omega
                    exact HN.out
                · intro x hx
                  have := hbd1 x hx
                  omega
              case measure => simp [intOf]; omega
            · have hn' : amtB xs[k].amount = false := by simpa using hn
              have HP : Hid (preErr xs = 2) := by
                have h2 : xs.any (fun x => !amtB x.amount) = true := List.any_eq_true.2 ⟨xs[k], List.getElem_mem _, by simp [hn']⟩
                simp only [Hid, preErr, if_neg (show ¬ 128 < xs.length by omega), h7.out, h2, if_true, Bool.false_eq_true, if_false]
              clear hn
              go_wp2_with (go_at_call 39; refine (amount26_any _ _).mono ?_; rintro e w' ⟨rfl, rfl⟩)
              go_ret2
              exact FAIL.out 2 _ (by omega) HP.out hbel
          · have h2 : Hid (xs.any (fun x => !amtB x.amount) = false) := by
              rw [Hid, List.any_eq_false]
              intro x hx
              obtain ⟨j, hj, rfl⟩ := List.mem_iff_getElem.1 hx
              simp [hall.out j hj (by omega)]
            have ek : xs.take k = xs := List.take_of_length_le (by omega)
            rw [ek] at hown hbd hlk hS5 hlc5
            rw [show (sumsP (xs.take k)).length = (sumsP xs).length by rw [ek]]
            obtain ⟨wp, rfl⟩ : ∃ wp : World, wp = wr := ⟨_, rfl⟩
            clear hall ek
            go_wp2
            generalize hS : sumsP xs = S at *
            have HSS := Lib.hid hS
            clear hS
            go_loop [7] (fun i => ∃ k : Nat, k ≤ S.length ∧ i = .int .i64 k ∧ Hid (∀ j, (hj : j < S.length) → j < k → amtB S[j].amount = true)) (fun i => S.length - (intOf i).toNat)
            case atStart => exact ⟨0, by omega, rfl, fun j _ hj => absurd hj (by omega)⟩
            case round =>
              obtain ⟨m, hm, rfl, hall⟩ := hrel
              by_cases hltm : m < S.length
              · obtain ⟨b, off, rfl, hb, hc⟩ := hS5.at_ hltm
                have c1 := hc 1 _ rfl
                clear hc
                by_cases hn : amtB S[m].amount = true
                · have HN := Lib.hid hn
                  go_wp2_with (go_at_call 39; refine (amount26_any _ _).mono ?_; rintro e w' ⟨rfl, rfl⟩)
                  go_round
                  case rel =>
                    refine ⟨m + 1, by omega, by go_num, fun j hj hjk => ?_⟩
                    rcases Nat.lt_or_ge j m with h1 | h1
                    · exact hall.out j hj h1
                    · obtain rfl : j = m := by omega
                      exact HN.out
                  case measure => simp [intOf]; omega
                · have hn' : amtB S[m].amount = false := by simpa using hn
                  have HP : Hid (preErr xs = 4) := by
                    have h4 : S.any (fun x => !amtB x.amount) = true := List.any_eq_true.2 ⟨S[m], List.getElem_mem _, by simp [hn']⟩
                    simp only [Hid, preErr, if_neg (show ¬ 128 < xs.length by omega), h7.out, h2.out, HSS.out, h4, if_true, Bool.false_eq_true, if_false]
                  clear hn
                  go_wp2_with (go_at_call 39; refine (amount26_any _ _).mono ?_; rintro e w' ⟨rfl, rfl⟩)
                  go_ret2
                  exact FAIL.out 4 _ (by omega) HP.out hbel
              · have HP : Hid (preErr xs = 0) := by
                  have h4 : S.any (fun x => !amtB x.amount) = false := by
                    rw [List.any_eq_false]
                    intro x hx
                    obtain ⟨j, hj, rfl⟩ := List.mem_iff_getElem.1 hx
                    simp [hall.out j hj (by omega)]
                  simp only [Hid, preErr, if_neg (show ¬ 128 < xs.length by omega), h7.out, h2.out, HSS.out, h4, Bool.false_eq_true, if_false]
                go_wp2
                go_ret2
                refine ⟨_, by rw [HP.out]; rfl, ?_, hbel⟩
                rw [sumsR, if_pos HP.out, HSS.out]
                exact hown

set_option maxRecDepth 100000 in
set_option maxHeartbeats 2000000 in
theorem merge26_any (A : Option Addr) (cap : Nat) (xs : List Elem) (w : World) (h : SliceOf encE 2 w w.heap.size A xs) (hz : ∀ x ∈ xs, x.code.size ≤ maxLen) (hl : xs.length ≤ 9223372036854775807) :
    Calls Try.prog 25 #[.slice A xs.length cap] w fun r w' => ∃ v, r = .returned (.tuple #[v, .int .i64 (preErr xs)]) ∧ Own encE 2 44 w' w.heap.size v (mergeR xs) ∧ Below w.heap.size w w' := by
  have hsl : preErr xs = 0 → (sumsP xs).length ≤ 1000000 := by
    intro h0
    have : xs.length ≤ 128 := by
      rcases Nat.lt_or_ge 128 xs.length with h1 | h1
      · rw [preErr, if_pos h1] at h0; cases h0
      · exact h1
    have := sumsP_length xs
    omega
  have HSL := Lib.hid hsl
  clear hsl
  go_enter Try.func25, Try.ntmps25
  go_wp2_with fail
  refine (sums26_any A cap xs _ h hz hl).mono ?_
  rintro e w1 ⟨v1, rfl, hown, hb1⟩
  by_cases h0 : preErr xs = 0
  · have hlen := HSL.out h0
    have H0 := Lib.hid h0
    rw [sumsR, if_pos h0] at hown
    have HM : Hid (mergeR xs = (sumsP xs).filter nz) := by rw [Hid, mergeR, if_pos h0]
    rw [h0]
    obtain ⟨A5, c5, rfl, hS5, hB5, hlc5, hcm5⟩ := hown.form2 encE_len
    generalize hS : sumsP xs = S at *
    clear hS h0 hz h
    have hb1s := hb1.size
    go_wp2
    go_loopw [6, 7] (fun v i wr => ∃ k : Nat, k ≤ S.length ∧ i = .int .i64 k ∧ Own encE 2 44 wr w1.heap.size v ((S.take k).filter nz) ∧ Below w1.heap.size w1 wr) (fun _ i _ => S.length - (intOf i).toNat)
    case atStart => exact ⟨0, by omega, rfl, Own.nil_ _ _, Below.refl _ _⟩
    case round =>
      obtain ⟨k, hk, rfl, hown6, hbel⟩ := hrel
      have hbs := hbel.size
      by_cases hlt : k < S.length
      · obtain ⟨b, off, rfl, hb, hc⟩ := (hS5.below hbel).at_ hlt
        have c0 := hc 0 _ rfl
        have c1 := hc 1 _ rfl
        simp only [Nat.add_zero] at c0
        clear hc
        have et : S.take (k + 1) = S.take k ++ [S[k]] := List.take_succ_eq_append_getElem hlt
        have ET := Lib.hid et
        clear et
        have hfl : ((S.take k).filter nz).length ≤ k := Nat.le_trans (List.length_filter_le _ _) (by simp; omega)
        by_cases hn : (S[k].amount != 0) = true
        · go_wp2_with (at_builtin; (refine wpList_append_one _ _ 38 ⟨S[k].code, S[k].amount⟩ _ 24 _ infoE Try.underlying38 hown6 encE_len (by omega) rfl (encE_one _) (by omega) (by omega) (by omega) (by rfl) (by rfl) (by rfl) (by rfl) (by simp) (by rfl) ?_); intro v2 w6 hown7 hg7)
          go_roundw
          case rel =>
            refine ⟨k + 1, by omega, by go_num, ?_, hbel.grown hg7 (by omega) (fun g hg => (hown6.block_lt hg).1)⟩
            rw [ET.out, List.filter_append]
            have : [S[k]].filter nz = [S[k]] := by simp [nz, hn]
            rw [this]
            exact hown7
          case measure => simp [intOf]; omega
        · have hn' : (S[k].amount != 0) = false := by simpa using hn
          clear hn
          go_wp2
          go_roundw
          case rel =>
            refine ⟨k + 1, by omega, by go_num, ?_, hbel⟩
            rw [ET.out, List.filter_append]
            have : [S[k]].filter nz = [] := by simp [nz, hn']
            rw [this, List.append_nil]
            exact hown6
          case measure => simp [intOf]; omega
      · go_wp2
        go_ret2
        refine ⟨_, by rw [H0.out]; rfl, ?_, hb1.trans (hbel.mono hb1s)⟩
        rw [HM.out]
        rw [List.take_of_length_le (by omega)] at hown6
        exact hown6.weaken hb1s
  · have h0' : (preErr xs != 0) = true := by simpa using h0
    have H0 : Hid (mergeR xs = []) := by rw [Hid, mergeR, if_neg h0]
    clear h0
    go_wp2
    go_ret2
    refine ⟨_, rfl, ?_, hb1⟩
    rw [H0.out]
    exact Own.nil_ _ _

end Go.Proofs.Ytlfefcfddpmccaa
