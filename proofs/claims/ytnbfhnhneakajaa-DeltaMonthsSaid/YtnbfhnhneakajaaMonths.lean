/- The walk of payrolllaw37.DeltaMonths: it returns true and turns nothing that was there. Conditions: as stated. -/
import Derived.Test.YtnbfhnhneakajaaRecovers
import Derived.Test.YtnbfhnhneakajaaSched2
import Derived.StillTailTactics
namespace Go.Proofs.Ytnbfhnhneakajaa
open Go.RowKit

/-- What stays of a debt when a period is paid: Recover goes on as the schedule says. -/
theorem months_law (left x k s : Int) (h0 : 0 ≤ left) (h1 : left ≤ 3000000) (hx : 0 ≤ x) (hx2 : x ≤ 1000000) (hk : 0 ≤ k) (hk2 : k ≤ 600000) (hs : 0 ≤ s) (hs2 : s ≤ 1000000) :
    recV (-left + x) x k s = .tuple #[.int .i64 (x - holdN left x k s), .int .i64 (-(left - holdN left x k s)), .int .i64 0] := by
  have hok : recOk (-left + x) x k s = true := by simp only [recOk, inB_yes (show -1000000000000 ≤ -left + x by omega) (show -left + x ≤ 1000000000000 by omega), inB_yes hx (show x ≤ 1000000000 by omega), inB_yes hk (show k ≤ 1000000000 by omega), inB_yes hs hs2, Bool.and_self]
  have hp : recPay (-left + x) x k s = x - holdN left x k s := by
    rw [recPay]
    split
    · have : left = 0 := by omega
      subst this
      obtain ⟨b1, b2, b3⟩ := holdN_bd 0 x k s (by omega) hx (by omega) hs hs2
      omega
    · rw [show x - (-left + x) = left by omega]
  rw [recV, hok, if_pos rfl, hp, show -left + x - (x - holdN left x k s) = -(left - holdN left x k s) by omega]
theorem schedS_get (keep share debt : Int) (nets : List Int) : ∀ k, k < nets.length → (schedS keep share debt nets).1[k]? = some (holdN (schedS keep share debt (nets.take k)).2 (nets[k]!) keep share) := by
  have hlen : ∀ (l : List Int) (st : List Int × Int), (l.foldl (stepS keep share) st).1.length = st.1.length + l.length := by
    intro l
    induction l with
    | nil => intro st; simp
    | cons a l ih => intro st; rw [List.foldl_cons, ih]; simp [stepS]; omega
  have hpre : ∀ (l : List Int) (st : List Int × Int) (i : Nat), i < st.1.length → (l.foldl (stepS keep share) st).1[i]? = st.1[i]? := by
    intro l
    induction l with
    | nil => intro st i _; rfl
    | cons a l ih =>
      intro st i hi
      rw [List.foldl_cons, ih _ _ (by simp [stepS]; omega)]
      simp [stepS, List.getElem?_append_left hi]
  intro k hk
  have h1 : schedS keep share debt nets = (nets.drop (k + 1)).foldl (stepS keep share) (schedS keep share debt (nets.take (k + 1))) := by
    conv => lhs; rw [schedS, ← List.take_append_drop (k + 1) nets, List.foldl_append]
    rfl
  have h2 : (schedS keep share debt (nets.take k)).1.length = k := by rw [schedS, hlen]; simp; omega
  rw [h1, hpre _ _ _ (by rw [schedS, hlen]; simp; omega), schedS_take keep share debt nets k hk]
  simp only [stepS]
  rw [List.getElem?_append_right (by omega), h2]
  simp [List.getElem!_eq_getElem?_getD, List.getElem?_eq_getElem hk]

set_option maxRecDepth 100000 in
set_option maxHeartbeats 800000 in
theorem months_walk (B : Option Addr) (lcap : Nat) (l : List Int) (w : World)
    (hI : SliceOf encI 1 w w.heap.size B l) (hIl : l.length ≤ 9223372036854775807) (hIb : ∀ x ∈ l, I64 x) :
    Calls Try.prog 9 #[.slice B l.length lcap] w fun e w' => e = .returned (.bool true) ∧ Below w.heap.size w w' := by
  go_enter Try.func9, Try.ntmps9
  go_wp2_with fail
  refine (new_any B l lcap _ hI hIl hIb).mono ?_
  rintro e w1 ⟨rfl, hd1, hb1⟩
  have hs1 := hd1.lt
  go_wp2_with fail
  refine (bases_any w.heap.size 0 5 _ (by omega) (by omega) hd1).mono ?_
  rintro e w3 ⟨v3, bs, rfl, hbl, hbb, hown3, hd3, hg3⟩
  have HBL := Lib.hid hbl
  have HBB := Lib.hid hbb
  clear hbl hbb
  obtain ⟨A3, c3, rfl, hS3, hB3, hlc3, hcm3⟩ := hown3.form2 encI_len
  have hA3 : ∀ a, A3 = some a → a.block ≠ w.heap.size := fun a ha => by have := hB3 a ha; omega
  go_wp2_with fail
  refine (small_any w.heap.size (0 + 5 * 5) _ (by omega) hd3).mono ?_
  rintro e w4 ⟨r4, rfl, ha4, hb4, hd4, hg4⟩
  go_wp2_with fail
  refine (small_any w.heap.size (0 + 5 * 5 + 2) _ (by omega) hd4).mono ?_
  rintro e w5 ⟨r5, rfl, ha5, hb5, hd5, hg5⟩
  go_wp2_with fail
  refine (rate_any w.heap.size (0 + 5 * 5 + 2 + 2) _ (by omega) hd5).mono ?_
  rintro e w6 ⟨r6, rfl, ha6, hb6, hd6, hg6⟩
  have hS6 := ((hS3.advG hg4 hA3).advG hg5 hA3).advG hg6 hA3
  have hb16 : w1.grownBy w6 (some w.heap.size) := only_trans (only_trans (only_trans hg3 hg4) hg5) hg6
  have hbel6 := bel_only hb1 hb16 (fun g e => by injection e; omega)
  have hbl' : bs.length ≤ 5 := by have := HBL.out; omega
  clear hd1 hd3 hd4 hd5 hd6 hg3 hg4 hg5 hg6 hb1 hb16 hI hIb hS3 hB3 hA3 hown3
  have hdb : 0 ≤ 5 * r4 ∧ 5 * r4 ≤ 3000000 := by omega
  obtain ⟨hdb1, hdb2⟩ := hdb
  generalize 5 * r4 = D at hdb1 hdb2 ⊢
  have HNB : Hid (∀ n ∈ bs, 0 ≤ n ∧ n ≤ 1000000000) := fun n hn => by have := HBB.out n hn; omega
  have HER : Hid (sErr D bs r5 r6 = 0) := sErr_yes (by omega) (by
    rw [sOk, inB_yes hdb1 (by omega), inB_yes ha5 (by omega), inB_yes ha6 (by omega), Bool.true_and, Bool.true_and, Bool.true_and, List.all_eq_true]
    intro x hx
    have := HNB.out x hx
    exact inB_yes this.1 this.2)
  have HSR : Hid (sR D bs r5 r6 = (schedS r5 r6 D bs).1) := by rw [Hid, sR, if_pos HER.out]
  have HSF := Lib.hid (schedS_facts r5 r6 D bs hdb1 ha6 hb6 HNB.out)
  have HSL : Hid ((schedS r5 r6 D bs).1.length = bs.length) := by have := (HSF.out bs.length (by omega)).1; rw [List.take_length] at this; exact this
  have HSG := Lib.hid (schedS_get r5 r6 D bs)
  go_wp2_with fail
  refine (schedule_any D r5 r6 A3 c3 bs _ hS6 (by omega)).mono ?_
  rintro e w7 ⟨v7, rfl, hown7, hb7⟩
  rw [HSR.out] at hown7
  rw [HER.out]
  generalize hH : (schedS r5 r6 D bs).1 = H at *
  have HH := Lib.hid hH
  clear hH
  obtain ⟨A7, c7, rfl, hS7, hB7, hlc7, hcm7⟩ := hown7.form2 encI_len
  have hS7b := hS6.adv hb7
  have hbel7 := bel_adv hbel6 hb7
  rw [HSL.out]
  have hlen' : ((bs.length : Int) != (bs.length : Int)) = false := by simp
  clear hown7 hb7 hbel6 hS6 hB7
  go_wp2
  go_loopw [10, 11, 12] (fun ba lf i wr => ∃ k q : Nat, k ≤ bs.length ∧ i = .int .i64 k ∧ lf = .int .i64 (schedS r5 r6 D (bs.take k)).2 ∧ ba = .int .i64 (-(schedS r5 r6 D (bs.take k)).2) ∧ Hid (wr = w7.drewN q)) (fun _ _ i _ => bs.length - (intOf i).toNat)
  case atStart =>
    exact ⟨0, 0, by omega, rfl, rfl, rfl, rfl⟩
  case round =>
    obtain ⟨k, q, hk, rfl, rfl, rfl, hw⟩ := hrel
    have hx' : SliceOf encI 1 wr w7.heap.size A3 bs := by rw [hw.out]; exact hS7b
    have hy' : SliceOf encI 1 wr w7.heap.size A7 H := by rw [hw.out]; exact hS7
    by_cases hlt : k < bs.length
    · have hltH : k < H.length := by rw [HSL.out]; exact hlt
      obtain ⟨f1, f2, f3⟩ := HSF.out k hk
      have HT := Lib.hid (schedS_take r5 r6 D bs k hlt)
      have HG : Hid (H[k] = holdN (schedS r5 r6 D (bs.take k)).2 bs[k] r5 r6) := by
        have := HSG.out k hlt
        rw [List.getElem?_eq_getElem hltH, List.getElem!_eq_getElem?_getD, List.getElem?_eq_getElem hlt] at this
        exact Option.some.inj this
      obtain ⟨b1, off1, rfl, hb1, hc1⟩ := hx'.at_ hlt
      obtain ⟨b2, off2, rfl, hb2, hc2⟩ := hy'.at_ hltH
      have c0 := hc1 0 _ rfl
      have d0 := hc2 0 _ rfl
      simp only [Nat.add_zero, Nat.mul_one] at c0 d0
      clear hc1 hc2
      generalize hL : (schedS r5 r6 D (bs.take k)).2 = L at *
      have HL := Lib.hid hL
      clear hL f1
      have hxb := HBB.out _ (List.getElem_mem hlt)
      obtain ⟨hxb1, hxb2⟩ := hxb
      have HV := Lib.hid (months_law L bs[k] r5 r6 f2 (by omega) hxb1 hxb2 ha5 (by omega) ha6 hb6)
      obtain ⟨e1, e2, e3⟩ := holdN_bd L bs[k] r5 r6 f2 hxb1 (by omega) ha6 hb6
      have hrec : ∀ W, Calls Try.prog 22 #[.int .i64 (-L + bs[k]), .int .i64 bs[k], .int .i64 r5, .int .i64 r6] W fun e w' => e = .returned (.tuple #[.int .i64 (bs[k] - holdN L bs[k] r5 r6), .int .i64 (-(L - holdN L bs[k] r5 r6)), .int .i64 0]) ∧ ∃ q, w' = W.drewN q := fun W => by
        rw [← HV.out]; exact recover_any _ _ _ _ W
      have hi1 : (k : Int) < (bs.length : Int) := by omega
      have hi2 : (k : Int) < (H.length : Int) := by omega
      rw [HG.out] at d0
      have HY : Hid (schedS r5 r6 D (bs.take (k + 1)) = ((schedS r5 r6 D (bs.take k)).1 ++ [holdN L bs[k] r5 r6], L - holdN L bs[k] r5 r6)) := by rw [Hid, HT.out, stepS, HL.out]
      clear HT HG HV hS7 hS7b
      generalize holdN L bs[k] r5 r6 = y at *
      generalize bs[k] = x at *
      have n1 : (x - y != x - y) = false := by simp
      have n2 : (-(L - y) != -(L - y)) = false := by simp
      have n3 : decide (L - y < 0) = false := by simp; omega
      go_wp2
      go_quiet ((go_at_call 22; exact Calls.quiet_of (hrec _)))
      rename Nat => nq0
      go_wp2
      go_quiet (fail)
      go_wp2
      go_roundw
      case rel =>
        refine ⟨k + 1, q + (nq0 + nq), by omega, by go_num, ?_, ?_, ?_⟩
        · rw [HY.out]
        · rw [HY.out]
        · show wr.drewN _ = w7.drewN _
          rw [hw.out, World.drewN_drewN]
      case measure => simp [intOf]; omega
    · go_wp2_with fail
      refine (awake_any _).mono ?_
      rintro e w13 ⟨rfl, hb13⟩
      go_wp2
      go_ret
      rw [hw.out] at hb13
      exact ⟨rfl, bel_adv (below_drewN hbel7 q) hb13⟩

end Go.Proofs.Ytnbfhnhneakajaa
