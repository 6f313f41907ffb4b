/- The walk of payrolllaw37.DeltaSchedules: it returns true and turns nothing that was there. Conditions: as stated. -/
import Derived.Test.YtnbfhnhneakajaaRecovers
import Derived.Test.YtnbfhnhneakajaaSched2
namespace Go.Proofs.Ytnbfhnhneakajaa
open Go.RowKit

theorem sR_len (debt keep share : Int) (xs : List Int) : (sR debt xs keep share).length ≤ 1024 := by
  rw [sR]; split
  · rename_i h
    have h1 : xs.length ≤ 1024 := by
      rcases Nat.lt_or_ge 1024 xs.length with h1 | h1
      · rw [sErr, if_pos h1] at h; cases h
      · exact h1
    have h2 : ∀ (l : List Int) (st : List Int × Int), (l.foldl (stepS keep share) st).1.length = st.1.length + l.length := by
      intro l
      induction l with
      | nil => intro st; simp
      | cons a l ih => intro st; rw [List.foldl_cons, ih]; simp [stepS]; omega
    rw [schedS, h2]; simp; omega
  · simp

set_option maxRecDepth 100000 in
set_option maxHeartbeats 4000000 in
theorem schedules_walk (B R : Option Addr) (lcap rcap : Nat) (l xs : List Int) (debt keep share : Int) (w : World)
    (hI : SliceOf encI 1 w w.heap.size B l) (hIl : l.length ≤ 9223372036854775807) (hIb : ∀ x ∈ l, I64 x) (hR : SliceOf encI 1 w w.heap.size R xs) (hRl : xs.length ≤ 9223372036854775807) :
    Calls Try.prog 8 #[.slice B l.length lcap, .slice R xs.length rcap, .int .i64 debt, .int .i64 keep, .int .i64 share] w fun e w' => e = .returned (.bool true) ∧ Below w.heap.size w w' := by
  by_cases hlen : 60 < xs.length
  · go_enter Try.func8, Try.ntmps8
    go_wp2_with fail
    refine (awake_any _).mono ?_
    rintro e w5 ⟨rfl, hb5⟩
    go_wp2
    go_ret
    exact ⟨rfl, hb5⟩
  · go_enter Try.func8, Try.ntmps8
    go_wp2_with fail
    refine (new_any B l lcap _ hI hIl hIb).mono ?_
    rintro e w1 ⟨rfl, hd1, hb1⟩
    have hs1 := hd1.lt
    go_wp2_with fail
    refine (next_any w.heap.size 0 _ _ (by omega) (by omega) (by omega) hd1).mono ?_
    rintro e w2 ⟨r2, rfl, ha2, hb2, hd2, hg2⟩
    have hs2 := hg2.size
    obtain ⟨m, rfl⟩ := Int.eq_ofNat_of_zero_le ha2
    go_wp2_with fail
    refine (bases_any w.heap.size (0 + 1) m _ (by omega) (by omega) hd2).mono ?_
    rintro e w3 ⟨v3, bs, rfl, hbl, hbb, hown3, hd3, hg3⟩
    have HBL := Lib.hid hbl
    clear hbl hbb
    obtain ⟨A3, c3, rfl, hS3, hB3, hlc3, hcm3⟩ := hown3.form2 encI_len
    have hA3 : ∀ a, A3 = some a → a.block ≠ w.heap.size := fun a ha => by have := hB3 a ha; omega
    go_wp2_with fail
    refine (amount_any w.heap.size (0 + 1 + 5 * m) _ (by omega) hd3).mono ?_
    rintro e w4 ⟨r4, rfl, ha4, hb4, hd4, hg4⟩
    go_wp2_with fail
    refine (small_any w.heap.size (0 + 1 + 5 * m + 2) _ (by omega) hd4).mono ?_
    rintro e w5 ⟨r5, rfl, ha5, hb5, hd5, hg5⟩
    go_wp2_with fail
    refine (rate_any w.heap.size (0 + 1 + 5 * m + 2 + 2) _ (by omega) hd5).mono ?_
    rintro e w6 ⟨r6, rfl, ha6, hb6, hd6, hg6⟩
    have hS6 := ((hS3.advG hg4 hA3).advG hg5 hA3).advG hg6 hA3
    have hb16 : w1.grownBy w6 (some w.heap.size) := only_trans (only_trans (only_trans (only_trans hg2 hg3) hg4) hg5) hg6
    have hbel6 := bel_only hb1 hb16 (fun g e => by injection e; omega)
    have hR6 := hR.adv hbel6
    have hbl' : bs.length ≤ 6 := by have := HBL.out; omega
    clear hd1 hd2 hd3 hd4 hd5 hd6 hg2 hg3 hg4 hg5 hg6 hb1 hb16 hI hIb hS3 hB3 hA3 hown3 hR
    go_wp2_with fail
    refine (schedule_any r4 r5 r6 A3 c3 bs _ hS6 (by omega)).mono ?_
    rintro e w7 ⟨v7, rfl, hown7, hb7⟩
    obtain ⟨A7, c7, rfl, hS7, hB7, hlc7, hcm7⟩ := hown7.form2 encI_len
    go_wp2_with fail
    refine (schedule37_any r4 r5 r6 A3 c3 bs _ (hS6.adv hb7) (by omega)).mono ?_
    rintro e w8 ⟨v8, rfl, hown8, hb8⟩
    obtain ⟨A8, c8, rfl, hS8, hB8, hlc8, hcm8⟩ := hown8.form2 encI_len
    go_wp2_with fail
    refine (schedule_any debt keep share R rcap xs _ ((hR6.adv hb7).adv hb8) (by omega)).mono ?_
    rintro e w9 ⟨v9, rfl, hown9, hb9⟩
    obtain ⟨A9, c9, rfl, hS9, hB9, hlc9, hcm9⟩ := hown9.form2 encI_len
    go_wp2_with fail
    refine (schedule37_any debt keep share R rcap xs _ (((hR6.adv hb7).adv hb8).adv hb9) (by omega)).mono ?_
    rintro e w10 ⟨v10, rfl, hown10, hb10⟩
    obtain ⟨A10, c10, rfl, hS10, hB10, hlc10, hcm10⟩ := hown10.form2 encI_len
    have hT7 := ((hS7.adv hb8).adv hb9).adv hb10
    have hT8 := (hS8.adv hb9).adv hb10
    have hT9 := hS9.adv hb10
    have hbel10 := bel_adv (bel_adv (bel_adv (bel_adv hbel6 hb7) hb8) hb9) hb10
    have hL1 := sR_len r4 r5 r6 bs
    have hL2 := sR_len debt keep share xs
    clear hS7 hS8 hS9 hown7 hown8 hown9 hown10 hB7 hB8 hB9 hB10 hb7 hb8 hb9 hb10 hbel6 hS6 hR6
    go_wp2_with fail
    refine (ints_self A7 A8 c7 c8 _ _ hT7 hT8 (by omega)).mono ?_
    rintro e w11 ⟨rfl, q11, rfl⟩
    go_wp2_with fail
    refine (ints_self A9 A10 c9 c10 _ _ (hT9.advD q11) (hS10.advD q11) (by omega)).mono ?_
    rintro e w12 ⟨rfl, q12, rfl⟩
    go_wp2_with fail
    refine (awake_any _).mono ?_
    rintro e w13 ⟨rfl, hb13⟩
    go_wp2
    go_ret
    exact ⟨rfl, bel_adv (below_drewN hbel10 (q11 + q12)) hb13⟩

end Go.Proofs.Ytnbfhnhneakajaa
