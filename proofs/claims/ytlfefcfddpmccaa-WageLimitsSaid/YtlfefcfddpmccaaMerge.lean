/- Contract of wage.Merge: it hands back 'mergeR' and 'preErr', as the reference does. Conditions: the slice's length fits an int, strings' lengths fit the model. -/
import Derived.Test.YtlfefcfddpmccaaPlain
namespace Go.Proofs.Ytlfefcfddpmccaa
open Go.RowKit Go.Sort Go.Shelf Go.Maps

theorem keyLit (s : ByteArray) : WideAt.IsKeyLit (key s) := trivial
theorem MapD.empty : MapD (.map []) (keyE []) (totE []) := ⟨isMap_empty, fun _ => rfl, fun _ => rfl⟩
theorem MapD.put_ {D : DataW Unit} {K K' : List UInt8 → Bool} {T T' : List UInt8 → Int} (h : MapD D K T) (s : ByteArray) (n : Int) (hK : ∀ c, K' c = (K c || decide (s.data.toList = c))) (hT : ∀ c, T' c = if s.data.toList = c then n else T c) : MapD (D.put (key s) (i64L n)) K' T' := by
  refine ⟨h.isMap.put _ _, fun c => ?_, fun c => ?_⟩
  · by_cases e : s.data.toList = c
    · subst e
      rw [show Lit.string s.data.toList = key s from rfl, has_put_same h.isMap (keyLit s), hK]; simp
    · rw [has_put_other (fun e' => e (by simpa [key] using e'.symm)), h.has, hK]; simp [e]
  · by_cases e : s.data.toList = c
    · subst e
      rw [show Lit.string s.data.toList = key s from rfl, atKey_put_same h.isMap (keyLit s), hT]; simp
    · rw [atKey_put_other (fun e' => e (by simpa [key] using e'.symm)), h.at_, hT]; simp [e]
theorem totE_bd (l : List Elem) (c : List UInt8) (h : ∀ x ∈ l, amtB x.amount = true) : -(l.length * 1000000000 : Int) ≤ totE l c ∧ totE l c ≤ l.length * 1000000000 := by
  induction l with
  | nil => simp [totE]
  | cons a l ih =>
    have h1 := ih (fun x hx => h x (by simp [hx]))
    have h2 : -1000000000 ≤ a.amount ∧ a.amount ≤ 1000000000 := by have := h a (by simp); simpa [amtB] using this
    simp only [totE, List.length_cons]
    have e9 : ((l.length + 1 : Nat) : Int) * 1000000000 = (l.length : Int) * 1000000000 + 1000000000 := by omega
    rw [e9]
    split <;> omega
theorem wf64 {n : Int} (h1 : -9223372036854775808 ≤ n) (h2 : n ≤ 9223372036854775807) : (Lit.int .i64 n).wf = true := by
  simp [Lit.wf, IntKind.min, IntKind.max, IntKind.signed, IntKind.bits]; omega

/-- What wage.Merge hands back. -/
def MergePost (m : List Elem) (er : Int) (w : World) (e : Ending) (w' : World) : Prop :=
  ∃ A cap, e = .returned (.tuple #[.slice A m.length cap, .int .i64 er]) ∧ SliceOf encE 2 w' w'.heap.size A m ∧ m.length ≤ cap ∧ cap ≤ maxLen ∧ Below w.heap.size w w'

theorem keyE_take (xs : List Elem) (k : Nat) (h : k < xs.length) (c : List UInt8) : keyE (xs.take (k + 1)) c = (keyE (xs.take k) c || decide (xs[k].code.data.toList = c)) := by
  rw [List.take_succ_eq_append_getElem h, keyE_append]; simp [keyE]
theorem totE_take (xs : List Elem) (k : Nat) (h : k < xs.length) (c : List UInt8) : totE (xs.take (k + 1)) c = totE (xs.take k) c + if xs[k].code.data.toList = c then xs[k].amount else 0 := by
  rw [List.take_succ_eq_append_getElem h, totE_append]; simp [totE]

set_option maxRecDepth 100000 in
set_option maxHeartbeats 4000000 in
theorem merge_any (A : Option Addr) (cap : Nat) (xs : List Elem) (w : World) (h : SliceOf encE 2 w w.heap.size A xs) (hz : ∀ x ∈ xs, x.code.size ≤ maxLen) (hl : xs.length ≤ 9223372036854775806) :
    Calls Try.prog 24 #[.slice A xs.length cap] w (MergePost (mergeR xs) (preErr xs) w) := by
  have HZ := Lib.hid hz; clear hz
  have fail_ : ∀ (n : Int) (W : World), n ≠ 0 → preErr xs = n → Below w.heap.size w W → MergePost (mergeR xs) (preErr xs) w (Ending.returned (.tuple #[.slice none 0 0, .int .i64 n])) W := by
    intro n W hn he hb
    have hm : mergeR xs = [] := by rw [mergeR, if_neg (by rw [he]; exact hn)]
    rw [hm, he]
    exact ⟨none, 0, rfl, SliceOf.nil_, by simp, by unfold maxLen; omega, hb⟩
  have FAIL := Lib.hid fail_
  clear fail_
  have hmm := @run_makeMap Try.prog
  by_cases hlen : 128 < xs.length
  · have HP : Hid (preErr xs = 3) := by simp only [Hid, preErr, if_pos hlen]
    go_enter Try.func24, Try.ntmps24
    go_wp2
    go_ret2
    exact FAIL.out 3 _ (by omega) HP.out (Below.refl _ _)
  · have hlen' : xs.length ≤ 128 := by omega
    clear hlen hl
    go_enter Try.func24, Try.ntmps24
    go_wp2
    go_loopw [16] (fun i wr => ∃ k : Nat, k ≤ xs.length ∧ i = .int .i64 k ∧ Hid (∀ j, (hj : j < xs.length) → j < k → nameB xs[j].code = true) ∧ Below w.heap.size w wr) (fun i _ => xs.length - (intOf i).toNat)
    case atStart => exact ⟨0, by omega, rfl, fun j _ hj => absurd hj (by omega), Below.refl _ _⟩
    case round =>
      obtain ⟨k, hk, rfl, hall, hbel⟩ := hrel
      have hbs := hbel.size
      by_cases hlt : k < xs.length
      · obtain ⟨b, off, rfl, hb, hc⟩ := (h.below hbel).at_ hlt
        have c0 := hc 0 _ rfl
        have c1 := hc 1 _ rfl
        simp only [Nat.add_zero] at c0
        clear hc
        have hzk := HZ.out _ (List.getElem_mem hlt)
        by_cases hn : nameB xs[k].code = true
        · go_wp2_with (go_at_call 33; refine (isName_any _ _ hzk).mono ?_; rintro e w' ⟨rfl, rfl⟩)
          go_roundw
          case rel =>
            refine ⟨k + 1, by omega, by go_num, fun j hj hjk => ?_, hbel.alloc hbs _⟩
            rcases Nat.lt_or_ge j k with h1 | h1
            · exact hall.out j hj h1
            · obtain rfl : j = k := by omega
              exact hn
          case measure => simp [intOf]; omega
        · have hn' : nameB xs[k].code = false := by simpa using hn
          have HP : Hid (preErr xs = 7) := by
            have h7 : xs.any (fun x => !nameB x.code) = true := List.any_eq_true.2 ⟨xs[k], List.getElem_mem _, by simp [hn']⟩
            simp only [Hid, preErr, if_neg (show ¬ 128 < xs.length by omega), h7, if_true]
          clear hn
          go_wp2_with (go_at_call 33; refine (isName_any _ _ hzk).mono ?_; rintro e w' ⟨rfl, rfl⟩)
          go_ret2
          exact FAIL.out 7 _ (by omega) HP.out (hbel.alloc hbs _)
      · have h7 : Hid (xs.any (fun x => !nameB x.code) = false) := by
          rw [Hid, List.any_eq_false]
          intro x hx
          obtain ⟨j, hj, rfl⟩ := List.mem_iff_getElem.1 hx
          simp [hall.out j hj (by omega)]
        obtain ⟨wo, rfl⟩ : ∃ wo : World, wo = wr := ⟨_, rfl⟩
        go_wp2
        clear hall hk hlt
        go_loopw [27] (fun i wr => ∃ k : Nat, k ≤ xs.length ∧ i = .int .i64 k ∧ Hid (∀ j, (hj : j < xs.length) → j < k → amtB xs[j].amount = true) ∧ Below w.heap.size w wr) (fun i _ => xs.length - (intOf i).toNat)
        case atStart => exact ⟨0, by omega, rfl, fun j _ hj => absurd hj (by omega), hbel⟩
        case round =>
          obtain ⟨k, hk, rfl, hall, hbel⟩ := hrel
          have hbs := hbel.size
          by_cases hlt : k < xs.length
          · obtain ⟨b, off, rfl, hb, hc⟩ := (h.below hbel).at_ hlt
            have c0 := hc 0 _ rfl
            have c1 := hc 1 _ rfl
            simp only [Nat.add_zero] at c0
            clear hc
            by_cases hn : amtB xs[k].amount = true
            · go_wp2_with (go_at_call 35; refine (isAmount_any _ _).mono ?_; rintro e w' ⟨rfl, rfl⟩)
              go_roundw
              case rel =>
                refine ⟨k + 1, by omega, by go_num, fun j hj hjk => ?_, hbel.alloc hbs _⟩
                rcases Nat.lt_or_ge j k with h1 | h1
                · exact hall.out j hj h1
                · obtain rfl : j = k := by omega
                  exact hn
              case measure => simp [intOf]; omega
            · have hn' : amtB xs[k].amount = false := by simpa using hn
              have HP : Hid (preErr xs = 2) := by
                have h2 : xs.any (fun x => !amtB x.amount) = true := List.any_eq_true.2 ⟨xs[k], List.getElem_mem _, by simp [hn']⟩
                simp only [Hid, preErr, if_neg (show ¬ 128 < xs.length by omega), h7.out, h2, if_true, Bool.false_eq_true, if_false]
              clear hn
              go_wp2_with (go_at_call 35; refine (isAmount_any _ _).mono ?_; rintro e w' ⟨rfl, rfl⟩)
              go_ret2
              exact FAIL.out 2 _ (by omega) HP.out (hbel.alloc hbs _)
          · have h2a : Hid (∀ x ∈ xs, amtB x.amount = true) := by
              intro x hx
              obtain ⟨j, hj, rfl⟩ := List.mem_iff_getElem.1 hx
              exact hall.out j hj (by omega)
            have h2 : Hid (xs.any (fun x => !amtB x.amount) = false) := by
              rw [Hid, List.any_eq_false]
              intro x hx
              simp [h2a.out x hx]
            obtain ⟨wp, rfl⟩ : ∃ wp : World, wp = wr := ⟨_, rfl⟩
            go_wp2
            clear hall hk hlt
            have hmap0 : (wp.alloc (.map #[] 0)).ownsMap Try.prog 9 (plainElem (H := Unit) Try.prog 3) wp.heap.size 0 (.map []) := World.ownsMap_made _ _ _ _
            have hbel0 : Below w.heap.size w (wp.alloc (.map #[] 0)) := hbel.alloc hbs _
            go_loopw [39] (fun i wr => ∃ (k : Nat) (D : DataW Unit), k ≤ xs.length ∧ i = .int .i64 k ∧ wr.ownsMap Try.prog 9 (plainElem (H := Unit) Try.prog 3) wp.heap.size k D ∧ MapD D (keyE (xs.take k)) (totE (xs.take k)) ∧ Below w.heap.size w wr) (fun i _ => xs.length - (intOf i).toNat)
            case atStart => exact ⟨0, .map [], by omega, rfl, hmap0, MapD.empty, hbel0⟩
            case round =>
              clear hmap0 hbel0
              obtain ⟨k, D, hk, rfl, hown, hD, hbel3⟩ := hrel
              have hbs3 := hbel3.size
              by_cases hlt : k < xs.length
              · obtain ⟨b, off, rfl, hb, hc⟩ := (h.below hbel3).at_ hlt
                have c0 := hc 0 _ rfl
                have c1 := hc 1 _ rfl
                simp only [Nat.add_zero] at c0
                clear hc
                have hzk := HZ.out _ (List.getElem_mem hlt)
                have hkey : keyOf Try.prog 9 (.string xs[k].code) = some (key xs[k].code) := WideMaps.keyOf_string_mk Try.underlying9 hzk
                have hown1 := hown.kept (World.grownBy_alloc wr (Obj.cells #[Value.string xs[k].code, Value.int IntKind.i64 xs[k].amount] 44) none) (by simp)
                have hTb := totE_bd (xs.take k) xs[k].code.data.toList (fun x hx => h2a.out x (List.mem_of_mem_take hx))
                have hTl : (xs.take k).length ≤ 128 := by simp; omega
                have hxk : -1000000000 ≤ xs[k].amount ∧ xs[k].amount ≤ 1000000000 := by have := h2a.out _ (List.getElem_mem hlt); simpa [amtB] using this
                obtain ⟨hxk1, hxk2⟩ := hxk
                have hat0 := hD.at_ xs[k].code.data.toList
                have hT1 : -1000000000000 ≤ totE (xs.take k) xs[k].code.data.toList := by omega
                have hT2 : totE (xs.take k) xs[k].code.data.toList ≤ 1000000000000 := by omega
                have hD1 := hD.put_ (K' := keyE (xs.take (k + 1))) (T' := totE (xs.take (k + 1))) xs[k].code (totE (xs.take k) xs[k].code.data.toList + xs[k].amount) (keyE_take xs k hlt) (fun c => by
                  rw [totE_take xs k hlt]
                  split
                  · rename_i e; rw [← e]
                  · omega)
                have HD1 := Lib.hid hD1
                have HAT := Lib.hid hat0
                generalize totE (xs.take k) xs[k].code.data.toList = t0 at hT1 hT2 HD1 HAT
                clear hTb hTl hat0 hD hD1
                go_wp2_with (first
                  | (at_lookup; refine wpList_lookup_own_int _ (by rfl) _ _ 65 (by rfl) 9 3 .i64 lawS Try.underlying65 Try.underlying3 (zeroI _) wp.heap.size k D (by rfl) hown1 _ _ (by rfl) hkey ?_; intro c hat hwc; obtain rfl : c = t0 := (by have h1 := HAT.out; rw [show Lit.string xs[k].code.data.toList = key xs[k].code from rfl, hat] at h1; injection h1 with h1; injection h1))
                  | (at_mapUpdate; refine wpList_mapUpdate_own _ (by rfl) _ _ _ 65 (by rfl) 9 3 lawS Try.underlying65 _ wp.heap.size k D (by rfl) hown1 (by unfold maxLen; omega) _ _ _ (by rfl) (by rfl) hkey _ [] (plainElem_int Try.underlying3 (wf64 (by omega) (by omega))) ?_; intro w1 hown2 hgrow1))
                go_roundw
                case rel => exact ⟨k + 1, _, by omega, by go_num, hown2, HD1.out, (hbel3.alloc hbs3 _).grown hgrow1 (by simp; omega) (fun g e => by injection e; omega)⟩
                case measure => simp [intOf]; omega
              · have ek : xs.take k = xs := List.take_of_length_le (by omega)
                rw [ek] at hD
                go_wp2_with fail
                refine (sumsG_any wp.heap.size k D _ _ _ hown hD (by omega)).mono ?_
                rintro e w4 ⟨hb4, ⟨hbad, rfl⟩ | ⟨hgood, A4, cap4, ys, rfl, hS4, hyn, hyc, hcm4, hys, hmem⟩⟩
                · have HP : Hid (preErr xs = 4) := by
                    have h4 := (over_iff xs).2 hbad
                    simp only [Hid, preErr, if_neg (show ¬ 128 < xs.length by omega), h7.out, h2.out, h4, if_true, Bool.false_eq_true, if_false]
                  go_wp2
                  go_ret2
                  exact FAIL.out 4 _ (by omega) HP.out (hbel3.trans (hb4.mono hbs3))
                · have HP : Hid (preErr xs = 0) := by
                    have h4 : (sumsP xs).any (fun x => !amtB x.amount) = false := by
                      cases hh : (sumsP xs).any (fun x => !amtB x.amount)
                      · rfl
                      · obtain ⟨c, hc1, hc2⟩ := (over_iff xs).1 hh
                        rw [hgood c hc1] at hc2
                        cases hc2
                    simp only [Hid, preErr, if_neg (show ¬ 128 < xs.length by omega), h7.out, h2.out, h4, Bool.false_eq_true, if_false]
                  have HM : Hid (mergeR xs = ys) := by rw [Hid, mergeR, if_pos HP.out, ← merged_eq hys hmem]
                  go_wp2
                  go_ret2
                  rw [HM.out, HP.out]
                  exact ⟨A4, cap4, rfl, hS4, hyc, hcm4, hbel3.trans (hb4.mono hbs3)⟩

end Go.Proofs.Ytlfefcfddpmccaa
