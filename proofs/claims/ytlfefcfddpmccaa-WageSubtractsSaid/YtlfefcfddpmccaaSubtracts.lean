/- The walk of payrolllaw26.WageSubtracts: it returns true and turns nothing that was there. Conditions: as stated. -/
import Derived.Test.YtlfefcfddpmccaaSub
import Derived.Test.YtlfefcfddpmccaaMerges
import Derived.Test.YtlfefcfddpmccaaData2
namespace Go.Proofs.Ytlfefcfddpmccaa
open Go.RowKit

theorem subR_len (a b : List Elem) : (subR a b).length ≤ 256 := by
  rw [subR]
  split
  · have h1 := List.length_filter_le nz (subL (mergeR a) (mergeR b))
    have h2 := subL_length (mergeR a) (mergeR b)
    have h3 := mergeR_len a
    have h4 := mergeR_len b
    omega
  · simp
theorem elems_size3 {ws : List WageT} {es : List Elem} (h : GenW 4 ws) (he : GenE ws es) : ∀ x ∈ es, x.code.size ≤ maxLen := fun x hx => by
  obtain ⟨y, hy, e⟩ := (he x hx).1
  have : ∀ c ∈ codes4, c.size ≤ 24 := by decide
  rw [e]; exact Nat.le_trans (this _ (h.ok y hy).code) (by unfold maxLen; omega)

set_option maxRecDepth 100000 in
set_option maxHeartbeats 4000000 in
theorem subtracts_walk (B A : Option Addr) (lcap cap : Nat) (l : List Int) (xs : List Elem) (w : World)
    (hI : SliceOf encI 1 w w.heap.size B l) (hIl : l.length ≤ 9223372036854775807) (hIb : ∀ x ∈ l, I64 x) (h : SliceOf encE 2 w w.heap.size A xs) (hz : ∀ x ∈ xs, x.code.size ≤ maxLen) (hl : xs.length ≤ 9223372036854775807) :
    Calls Try.prog 9 #[.slice B l.length lcap, .slice A xs.length cap] w fun e w' => e = .returned (.bool true) ∧ Below w.heap.size w w' := by
  have HZ := Lib.hid hz; clear hz
  by_cases hsh : shortEB xs = true
  · have hlen : xs.length ≤ 140 := by simp [shortEB] at hsh; exact hsh.1
    go_enter Try.func9, Try.ntmps9
    go_wp2_with (go_at_call 19; refine (shortE_any A cap xs _ _ h hl).mono ?_; rintro e w' ⟨rfl, rfl⟩)
    refine (new_any B l lcap _ hI hIl hIb).mono ?_
    rintro e w1 ⟨rfl, hd1, hb1⟩
    go_wp2_with fail
    refine (wages_any w.heap.size 0 _ (by omega) hd1).mono ?_
    rintro e w2 ⟨v2, ws, rfl, hgen, hown2, hd2, hg2⟩
    have hs1 := hd1.lt
    have hs2 := hg2.size
    have hwl := hgen.len
    obtain ⟨A2, c2, rfl, hS2, hB2, hlc2, hcm2⟩ := hown2.form2 encW_len
    have hA2 : ∀ a, A2 = some a → a.block ≠ w.heap.size := fun a ha => by have := hB2 a ha; omega
    go_wp2_with fail
    refine (elements_any w.heap.size 20 A2 ws c2 6 _ (by omega) (by omega) (by omega) hd2 hS2 hA2 (by omega)).mono ?_
    rintro e w3 ⟨v3, e3, rfl, hge3, hel3, hown3, hd3, hg3⟩
    have hs3 := hg3.size
    obtain ⟨A3, c3, rfl, hS3, hB3, hlc3, hcm3⟩ := hown3.form2 encE_len
    have hA3 : ∀ a, A3 = some a → a.block ≠ w.heap.size := fun a ha => by have := hB3 a ha; omega
    go_wp2_with fail
    refine (elements_any w.heap.size (20 + 1 + 4 * 6) A2 ws c2 6 _ (by omega) (by omega) (by omega) hd3 (hS2.advG hg3 hA2) hA2 (by omega)).mono ?_
    rintro e w4 ⟨v4, e4, rfl, hge4, hel4, hown4, hd4, hg4⟩
    have hs4 := hg4.size
    obtain ⟨A4, c4, rfl, hS4, hB4, hlc4, hcm4⟩ := hown4.form2 encE_len
    have hE4 := hS3.advG hg4 hA3
    have hbel4 : Below w.heap.size w w4 := bel_only (bel_only (bel_only hb1 hg2 (fun g e => by injection e; omega)) hg3 (fun g e => by injection e; omega)) hg4 (fun g e => by injection e; omega)
    obtain ⟨L1, L2, L3, L4, L5, L6⟩ := subtract_law hgen hge3 hge4 hel3 hel4
    have HL1 := Lib.hid L1
    have HL2 := Lib.hid L2
    have HL3 := Lib.hid L3
    have HL4 := Lib.hid L4
    have HL6 := Lib.hid L6
    have HE3 := Lib.hid (elems_size3 hgen hge3)
    have HE4 := Lib.hid (elems_size3 hgen hge4)
    have hR4 := h.adv hbel4
    clear hS2 hS3 hB2 hB3 hB4 hA2 hA3 hown2 hown3 hown4 hd1 hd2 hd3 hd4 hI hIb hg2 hg3 hg4 hb1 hgen hge3 hge4 L1 L2 L3 L4 L6 h
    go_wp2_with fail
    refine (sub_any A3 A4 c3 c4 e3 e4 _ hE4 HE3.out (by omega) hS4 HE4.out (by omega)).mono ?_
    rintro e w5 ⟨A5, c5, rfl, hS5, hc5, hcm5, hb5⟩
    rw [HL1.out]
    generalize hd : subR e3 e4 = dd at *
    clear hd
    have hE5 := hE4.adv hb5
    have hF5 := hS4.adv hb5
    have hR5 := hR4.adv hb5
    have hbel5 := bel_adv hbel4 hb5
    have hO5 := Own.lit encE_len w5 [] #[] 44 rfl (by simp) (Nat.le_refl _)
    have hz5 : w5.heap.size ≤ (w5.alloc (.cells #[] 44)).heap.size := by simp
    have tok1 : True := trivial
    clear hE4 hS4 hR4 hbel4 hb5
    go_wp2_with (first
      | (at_builtin; have _t := tok1; (refine wpList_append_list (xs := []) (ys := e4) _ _ 38 _ 24 _ infoE Try.underlying38 hO5 (hF5.advA _) encE_len (by omega) rfl encE_one (by simp; omega) (by omega) hz5 (by rfl) (by rfl) (by rfl) (by rfl) rfl ?_); intro v6 w6 hown6 hg6; have hE6 := hS5.fresh hg6; have hs6 := fresh_size hg6; clear tok1)
      | (at_builtin; (refine wpList_append_list (xs := [] ++ e4) (ys := dd) _ _ 38 _ 24 _ infoE Try.underlying38 hown6 hE6 encE_len (by omega) rfl encE_one (by simp; omega) (by omega) (by omega) (by rfl) (by rfl) (by rfl) (by rfl) rfl ?_); intro v7 w7 hown7 hg7))
    rw [List.nil_append] at hown7
    have hb6 := fresh_below hg6
    have hb7 : Below w5.heap.size w5 w7 := hb6.trans (hown6.below_of hg7 (by omega))
    obtain ⟨A7, c7, rfl, hS7, hB7, hlc7, hcm7⟩ := hown7.form2 encE_len
    have hE7 := hE5.adv hb7
    have hF7 := hF5.adv hb7
    have hR7 := hR5.adv hb7
    have hbel7 := bel_adv hbel5 hb7
    have HE7 : Hid (∀ x ∈ e4 ++ dd, x.code.size ≤ maxLen) := fun x hx => by
      rcases List.mem_append.1 hx with hx | hx
      · exact HE4.out x hx
      · exact HL6.out x hx
    clear hE5 hF5 hR5 hbel5 hO5 hz5 hown6 hown7 hg6 hg7 hE6 hb6 hb7 hB7 hS5
    refine (merge_any A7 c7 (e4 ++ dd) _ hS7 HE7.out (by simp; omega)).mono ?_
    rintro e w8 ⟨A8, c8, rfl, hS8, hc8, hcm8, hb8⟩
    rw [HL2.out, HL4.out] at *
    go_wp2_with fail
    refine (merge_any A3 c3 e3 _ (hE7.adv hb8) HE3.out (by omega)).mono ?_
    rintro e w9 ⟨A9, c9, rfl, hS9, hc9, hcm9, hb9⟩
    rw [HL3.out]
    go_wp2_with fail
    refine (sub_any A A4 cap c4 xs e4 _ ((hR7.adv hb8).adv hb9) HZ.out (by omega) ((hF7.adv hb8).adv hb9) HE4.out (by omega)).mono ?_
    rintro e w10 ⟨A10, c10, rfl, hS10, hc10, hcm10, hb10⟩
    go_wp2_with fail
    refine (sub26_any A A4 cap c4 xs e4 _ (((hR7.adv hb8).adv hb9).adv hb10) HZ.out (by omega) (((hF7.adv hb8).adv hb9).adv hb10) HE4.out (by omega)).mono ?_
    rintro e w11 ⟨v11, rfl, hown11, hb11⟩
    obtain ⟨A11, c11, rfl, hS11, hB11, hlc11, hcm11⟩ := hown11.form2 encE_len
    have hT8 := ((hS8.adv hb9).adv hb10).adv hb11
    have hT9 := (hS9.adv hb10).adv hb11
    have hT10 := hS10.adv hb11
    have hbel11 := bel_adv (bel_adv (bel_adv (bel_adv hbel7 hb8) hb9) hb10) hb11
    have hp1 := preLen (xs := e3)
    have hp2 := subR_len xs e4
    clear hE7 hF7 hR7 hbel7 hS8 hS9 hS10 hb8 hb9 hb10 hb11 hown11 hB11 hS7
    go_wp2_with fail
    refine (same_self A8 A9 c8 c9 _ _ hT8 hT9 (by omega)).mono ?_
    rintro e w12 ⟨rfl, q12, rfl⟩
    go_wp2_with fail
    refine (same_self A10 A11 c10 c11 _ _ (hT10.advD q12) (hS11.advD q12) (by omega)).mono ?_
    rintro e w13 ⟨rfl, q13, rfl⟩
    go_wp2_with fail
    refine (awake_any _).mono ?_
    rintro e w14 ⟨rfl, hb14⟩
    go_wp2
    go_ret
    exact ⟨rfl, bel_adv (below_drewN hbel11 (q12 + q13)) hb14⟩
  · have hsh' : shortEB xs = false := by simpa using hsh
    clear hsh
    go_enter Try.func9, Try.ntmps9
    go_wp2_with (go_at_call 19; refine (shortE_any A cap xs _ _ h hl).mono ?_; rintro e w' ⟨rfl, rfl⟩)
    refine (awake_any _).mono ?_
    rintro e w5 ⟨rfl, hb5⟩
    go_wp2
    go_ret
    exact ⟨rfl, hb5⟩

end Go.Proofs.Ytlfefcfddpmccaa
