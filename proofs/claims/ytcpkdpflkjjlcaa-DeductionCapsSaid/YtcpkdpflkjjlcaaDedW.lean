/- Contracts of amountOf, At, Sum, Wanted (both), slices.Clone at deductions. Conditions: as stated. -/
import Derived.Test.YtcpkdpflkjjlcaaDedV
import Derived.Test.YtcpkdpflkjjlcaaDedV2
namespace Go.Proofs.Ytcpkdpflkjjlcaa
open Go.RowKit

theorem ret_int {k : IntKind} {a b : Int} (h : a = b) : Ending.returned (.int k a) = .returned (.int k b) := by rw [h]
theorem ret_tup {a b v : Int} (h : a = b) : Ending.returned (.tuple #[.int .i64 a, .int .i64 v]) = .returned (.tuple #[.int .i64 b, .int .i64 v]) := by rw [h]

set_option maxHeartbeats 1000000 in
theorem amountOf_any (A : Option Addr) (cap : Nat) (xs : List Elem) (c : ByteArray) (w : World) (h : SliceOf encE 2 w w.heap.size A xs) (hl : xs.length ≤ 9223372036854775806) :
    Calls Try.prog 46 #[.slice A xs.length cap, .string c] w fun e w' => e = .returned (.int .i64 (atE xs c)) ∧ Below w.heap.size w w' := by
  go_enter Try.func46, Try.ntmps46
  go_wp2
  go_loopw [9] (fun i wr => ∃ k : Nat, k ≤ xs.length ∧ i = .int .i64 k ∧ Hid (∀ j, (hj : j < xs.length) → j < k → (xs[j].code.toList == c.toList) = false) ∧ Below w.heap.size w wr) (fun i _ => xs.length - (intOf i).toNat)
  case atStart => exact ⟨0, by omega, rfl, fun j _ hj => absurd hj (by omega), Below.refl _ _⟩
  case round =>
    obtain ⟨k, hk, rfl, hall, hbel⟩ := hrel
    have hbs := hbel.size
    by_cases hlt : k < xs.length
    · obtain ⟨b, off, rfl, hb, hc⟩ := (h.below hbel).at_ hlt
      have c0 := hc 0 _ rfl
      have c1 := hc 1 _ rfl
      simp only [Nat.add_zero] at c0
      clear hc
      by_cases he : (xs[k].code.toList == c.toList) = true
      · have HV := Lib.hid (atE_at hlt hall.out he)
        go_wp2
        go_ret
        exact ⟨by rw [HV.out]; rfl, hbel.alloc hbs _⟩
      · have he' : (xs[k].code.toList == c.toList) = false := by simpa using he
        clear he
        go_wp2
        go_roundw
        case rel =>
          refine ⟨k + 1, by omega, by go_num, fun j hj hjk => ?_, hbel.alloc hbs _⟩
          rcases Nat.lt_or_ge j k with h1 | h1
          · exact hall.out j hj h1
          · obtain rfl : j = k := by omega
            exact he'
        case measure => simp [intOf]; omega
    · have HV := Lib.hid (atE_none (l := xs) (c := c) (fun j hj => hall.out j hj (by omega)))
      go_wp2
      go_ret
      exact ⟨by rw [HV.out]; rfl, hbel⟩

set_option maxHeartbeats 1000000 in
theorem at26_any (A : Option Addr) (cap : Nat) (xs : List Elem) (c : ByteArray) (w : World) (B : Nat) (h : SliceOf encE 2 w B A xs) (hl : xs.length ≤ 9223372036854775806) :
    Calls Try.prog 30 #[.slice A xs.length cap, .string c] w fun e w' => e = .returned (.int .i64 (atE xs c)) ∧ w = w' := by
  go_enter Try.func30, Try.ntmps30
  go_wp2
  go_loop [5] (fun i => ∃ k : Nat, k ≤ xs.length ∧ i = .int .i64 k ∧ Hid (∀ j, (hj : j < xs.length) → j < k → (xs[j].code.toList == c.toList) = false)) (fun i => xs.length - (intOf i).toNat)
  case atStart => exact ⟨0, by omega, rfl, fun j _ hj => absurd hj (by omega)⟩
  case round =>
    obtain ⟨k, hk, rfl, hall⟩ := hrel
    by_cases hlt : k < xs.length
    · obtain ⟨b, off, rfl, hb, hc⟩ := h.at_ hlt
      have c0 := hc 0 _ rfl
      have c1 := hc 1 _ rfl
      simp only [Nat.add_zero] at c0
      clear hc
      by_cases he : (xs[k].code.toList == c.toList) = true
      · have HV := Lib.hid (atE_at hlt hall.out he)
        go_wp2
        go_ret
        exact ⟨by rw [HV.out]; rfl, rfl⟩
      · have he' : (xs[k].code.toList == c.toList) = false := by simpa using he
        clear he
        go_wp2
        go_round
        case rel =>
          refine ⟨k + 1, by omega, by go_num, fun j hj hjk => ?_⟩
          rcases Nat.lt_or_ge j k with h1 | h1
          · exact hall.out j hj h1
          · obtain rfl : j = k := by omega
            exact he'
        case measure => simp [intOf]; omega
    · have HV := Lib.hid (atE_none (l := xs) (c := c) (fun j hj => hall.out j hj (by omega)))
      go_wp2
      go_ret
      exact ⟨by rw [HV.out]; rfl, rfl⟩

theorem sumE_take (xs : List Elem) (k : Nat) (h : k < xs.length) : sumE (xs.take (k + 1)) = sumE (xs.take k) + xs[k].amount := by
  rw [List.take_succ_eq_append_getElem h, sumE_append]; simp [sumE]
theorem sumE_bd (l : List Elem) (B : Int) (h : ∀ x ∈ l, 0 ≤ x.amount ∧ x.amount ≤ B) : 0 ≤ sumE l ∧ sumE l ≤ l.length * B := by
  induction l with
  | nil => simp [sumE]
  | cons a l ih =>
    have h1 := ih (fun x hx => h x (by simp [hx]))
    have h2 := h a (by simp)
    have h3 : ((l.length + 1 : Nat) : Int) * B = l.length * B + B := by rw [Int.natCast_add, Int.add_mul]; simp
    simp only [sumE, List.length_cons]
    rw [h3]
    omega
set_option maxHeartbeats 1000000 in
theorem sum27_any (A : Option Addr) (cap : Nat) (xs : List Elem) (w : World) (B : Nat) (h : SliceOf encE 2 w B A xs) (hl : xs.length ≤ 1000) (hx : ∀ x ∈ xs, 0 ≤ x.amount ∧ x.amount ≤ 1000000000000) :
    Calls Try.prog 29 #[.slice A xs.length cap] w fun e w' => e = .returned (.int .i64 (sumE xs)) ∧ w = w' := by
  have HX := Lib.hid hx
  clear hx
  go_enter Try.func29, Try.ntmps29
  go_wp2
  go_loop [3, 4] (fun s i => ∃ k : Nat, k ≤ xs.length ∧ i = .int .i64 k ∧ s = .int .i64 (sumE (xs.take k))) (fun _ i => xs.length - (intOf i).toNat)
  case atStart => exact ⟨0, by omega, rfl, rfl⟩
  case round =>
    obtain ⟨k, hk, rfl, rfl⟩ := hrel
    by_cases hlt : k < xs.length
    · obtain ⟨b, off, rfl, hb, hc⟩ := h.at_ hlt
      have c1 := hc 1 _ rfl
      clear hc
      have HT := Lib.hid (sumE_take xs k hlt)
      have hbd := sumE_bd (xs.take k) 1000000000000 (fun x hx => HX.out x (List.mem_of_mem_take hx))
      have hxk := HX.out _ (List.getElem_mem hlt)
      obtain ⟨hx1, hx2⟩ := hxk
      obtain ⟨hs1, hs2⟩ := hbd
      have hs3 : sumE (xs.take k) ≤ 1000000000000000 := by
        have : (xs.take k).length ≤ 1000 := by simp; omega
        omega
      clear hs2
      go_wp2
      go_round
      case rel => exact ⟨k + 1, by omega, by go_num, by rw [HT.out]⟩
      case measure => simp [intOf]; omega
    · have HV : Hid (xs.take k = xs) := List.take_of_length_le (by omega)
      go_wp2
      go_ret
      exact ⟨by rw [HV.out]; rfl, rfl⟩

theorem wantR_ok {d : DedT} {base taken p : Int} (hE : wantE d base taken = 0) (hp : partN base d.rate 1000000 1 4 = p) : wantR d base taken = if 0 < d.cap then min (min (d.amount + p) 1000000000) (max (d.cap - taken) 0) else min (d.amount + p) 1000000000 := by
  rw [wantR, if_pos hE, wantN, wantA, hp]
theorem wantE_1 {d : DedT} {base taken : Int} (h : validD [d] = false) : wantE d base taken = 1 := by rw [wantE, if_pos h]
theorem wantE_2 {d : DedT} {base taken : Int} (h : validD [d] = true) (h2 : inB base 1000000000 = false ∨ inB taken 1000000000000 = false) : wantE d base taken = 2 := by
  rw [wantE, if_neg (by simp [h])]
  rcases h2 with h2 | h2
  · rw [if_pos h2]
  · rw [if_pos h2]; split <;> rfl
theorem wantE_0 {d : DedT} {base taken : Int} (h : validD [d] = true) (h1 : inB base 1000000000 = true) (h2 : inB taken 1000000000000 = true) : wantE d base taken = 0 := by
  rw [wantE, if_neg (by simp [h]), if_neg (by simp [h1]), if_neg (by simp [h2])]
theorem wantR_no {d : DedT} {base taken : Int} (h : wantE d base taken ≠ 0) : wantR d base taken = 0 := by rw [wantR, if_neg h]

set_option maxHeartbeats 2000000 in
theorem wanted_any (d : DedT) (base taken : Int) (w : World) (hz : d.code.size ≤ maxLen) (ht : I64 taken) :
    Calls Try.prog 21 #[.agg #[.string d.code, .int .i64 d.rank, .bool d.before, .int .i64 d.amount, .int .i64 d.rate, .int .i64 d.cap], .int .i64 base, .int .i64 taken] w fun e w' => e = .returned (.tuple #[.int .i64 (wantR d base taken), .int .i64 (wantE d base taken)]) ∧ Below w.heap.size w w' := by
  obtain ⟨t1, t2⟩ := ht
  go_enter Try.func21, Try.ntmps21
  go_wp2_with fail
  have hBx := (Blk.new w 33 #[.string d.code, .int .i64 d.rank, .bool d.before, .int .i64 d.amount, .int .i64 d.rate, .int .i64 d.cap]).alloc (.cells #[.string d.code, .int .i64 d.rank, .bool d.before, .int .i64 d.amount, .int .i64 d.rate, .int .i64 d.cap] 33)
  have hS := SliceOf.new encD_len (w.alloc (.cells #[.string d.code, .int .i64 d.rank, .bool d.before, .int .i64 d.amount, .int .i64 d.rate, .int .i64 d.cap] 33)) [d] #[.string d.code, .int .i64 d.rank, .bool d.before, .int .i64 d.amount, .int .i64 d.rate, .int .i64 d.cap] 33 rfl
  rw [World.size_alloc] at hS
  refine (validD_any _ 1 [d] _ (hS.more (by simp)) (by simpa using hz) (by simp)).mono ?_
  rintro e w1 ⟨rfl, hb1⟩
  have hbel : Below w.heap.size w w1 := bel_adv (bel_alloc (bel_alloc (Below.refl _ _) _) _) hb1
  have hB1 := hBx.adv hb1
  have hl1 := hB1.lt
  have z0 := hB1.cell 0
  have z1 := hB1.cell 1
  have z2 := hB1.cell 2
  have z3 := hB1.cell 3
  have z4 := hB1.cell 4
  have z5 := hB1.cell 5
  simp only [List.getElem?_toArray, List.getElem?_cons_zero, List.getElem?_cons_succ] at z0 z1 z2 z3 z4 z5
  clear hb1 hBx hS hB1
  by_cases hv : validD [d] = true
  · have hok := validD_one.1 hv
    by_cases h1 : 0 ≤ base
    · by_cases h2 : base ≤ 1000000000
      · by_cases h3 : 0 ≤ taken
        · by_cases h4 : taken ≤ 1000000000000
          · have hE := wantE_0 hv (inB_iff.2 ⟨h1, h2⟩) (inB_iff.2 ⟨h3, h4⟩)
            obtain ⟨q1, q2, q3, _, _⟩ := wantA_bd hok h1 h2
            obtain ⟨_, _, _, a0, a1, c0, c1, _, _⟩ := hok
            have HQ := Lib.hid q1
            clear q1
            generalize hp : partN base d.rate 1000000 1 4 = p at q2 q3
            have HP := Lib.hid hp
            have HW := Lib.hid (wantR_ok hE hp)
            have HE := Lib.hid hE
            clear hp hE
            go_wp2_with fail
            refine (part_any _ _ _ _ _ _).mono ?_
            rintro e w' ⟨rfl, q, rfl⟩
            rw [HQ.out, HP.out]
            go_wp2
            all_goals
              go_ret2
              refine ⟨?_, below_drewN hbel q⟩
              rw [HW.out, HE.out]
              exact ret_tup (by first | omega | (simp_all; done) | (simp_all; omega))
          · have HE := Lib.hid (wantE_2 (base := base) hv (.inr (inB_no.2 (.inr (show 1000000000000 < taken by omega)))))
            have HR := Lib.hid (wantR_no (d := d) (base := base) (taken := taken) (by rw [HE.out]; decide))
            go_wp2
            go_ret2
            exact ⟨by rw [HE.out, HR.out]; rfl, hbel⟩
        · have HE := Lib.hid (wantE_2 (base := base) hv (.inr (inB_no.2 (.inl (show taken < 0 by omega)))))
          have HR := Lib.hid (wantR_no (d := d) (base := base) (taken := taken) (by rw [HE.out]; decide))
          go_wp2
          go_ret2
          exact ⟨by rw [HE.out, HR.out]; rfl, hbel⟩
      · have HE := Lib.hid (wantE_2 (taken := taken) hv (.inl (inB_no.2 (.inr (show 1000000000 < base by omega)))))
        have HR := Lib.hid (wantR_no (d := d) (base := base) (taken := taken) (by rw [HE.out]; decide))
        go_wp2
        go_ret2
        exact ⟨by rw [HE.out, HR.out]; rfl, hbel⟩
    · have HE := Lib.hid (wantE_2 (taken := taken) hv (.inl (inB_no.2 (.inl (show base < 0 by omega)))))
      have HR := Lib.hid (wantR_no (d := d) (base := base) (taken := taken) (by rw [HE.out]; decide))
      go_wp2
      go_ret2
      exact ⟨by rw [HE.out, HR.out]; rfl, hbel⟩
  · have hv' : validD [d] = false := by simpa using hv
    have HE := Lib.hid (wantE_1 (base := base) (taken := taken) hv')
    have HR := Lib.hid (wantR_no (d := d) (base := base) (taken := taken) (by rw [HE.out]; decide))
    clear hv
    go_wp2
    go_ret2
    exact ⟨by rw [HE.out, HR.out]; rfl, hbel⟩

set_option maxHeartbeats 2000000 in
theorem wanted27_any (d : DedT) (base taken : Int) (w : World) (hz : d.code.size ≤ maxLen) (ht : I64 taken) :
    Calls Try.prog 22 #[.agg #[.string d.code, .int .i64 d.rank, .bool d.before, .int .i64 d.amount, .int .i64 d.rate, .int .i64 d.cap], .int .i64 base, .int .i64 taken] w fun e w' => e = .returned (.tuple #[.int .i64 (wantR d base taken), .int .i64 (wantE d base taken)]) ∧ Below w.heap.size w w' := by
  obtain ⟨t1, t2⟩ := ht
  go_enter Try.func22, Try.ntmps22
  go_wp2_with fail
  have hBx := (Blk.new w 33 #[.string d.code, .int .i64 d.rank, .bool d.before, .int .i64 d.amount, .int .i64 d.rate, .int .i64 d.cap]).alloc (.cells #[.string d.code, .int .i64 d.rank, .bool d.before, .int .i64 d.amount, .int .i64 d.rate, .int .i64 d.cap] 33)
  have hS := SliceOf.new encD_len (w.alloc (.cells #[.string d.code, .int .i64 d.rank, .bool d.before, .int .i64 d.amount, .int .i64 d.rate, .int .i64 d.cap] 33)) [d] #[.string d.code, .int .i64 d.rank, .bool d.before, .int .i64 d.amount, .int .i64 d.rate, .int .i64 d.cap] 33 rfl
  rw [World.size_alloc] at hS
  refine (valid27_any _ 1 [d] _ (hS.more (by simp)) (by simpa using hz) (by simp)).mono ?_
  rintro e w1 ⟨rfl, hb1⟩
  have hbel : Below w.heap.size w w1 := bel_adv (bel_alloc (bel_alloc (Below.refl _ _) _) _) hb1
  have hB1 := hBx.adv hb1
  have hl1 := hB1.lt
  have z0 := hB1.cell 0
  have z1 := hB1.cell 1
  have z2 := hB1.cell 2
  have z3 := hB1.cell 3
  have z4 := hB1.cell 4
  have z5 := hB1.cell 5
  simp only [List.getElem?_toArray, List.getElem?_cons_zero, List.getElem?_cons_succ] at z0 z1 z2 z3 z4 z5
  clear hb1 hBx hS hB1
  by_cases hv : validD [d] = true
  · have hok := validD_one.1 hv
    by_cases h1 : inB base 1000000000 = true
    · by_cases h3 : inB taken 1000000000000 = true
      · have hE := wantE_0 hv h1 h3
        have g1 := inB_lo h1
        have g2 := inB_hi h1
        have g3 := inB_lo h3
        have g4 := inB_hi h3
        obtain ⟨q1, q2, q3, _, _⟩ := wantA_bd hok g1 g2
        obtain ⟨_, _, _, a0, a1, c0, c1, _, _⟩ := hok
        have HQ := Lib.hid q1
        clear q1
        generalize hp : partN base d.rate 1000000 1 4 = p at q2 q3
        have HP := Lib.hid hp
        have HW := Lib.hid (wantR_ok hE hp)
        have HE := Lib.hid hE
        clear hp hE
        go_wp2_with (go_at_call 37; refine (in_any _ _ _).mono ?_; rintro e w' ⟨rfl, rfl⟩)
        refine (part2_any _ _ _ _ _ _).mono ?_
        rintro e w' ⟨rfl, rfl⟩
        rw [HQ.out, HP.out]
        go_wp2
        all_goals
          go_ret2
          refine ⟨?_, hbel⟩
          rw [HW.out, HE.out]
          exact ret_tup (by first | omega | (simp_all; done) | (simp_all; omega))
      · have h3' : inB taken 1000000000000 = false := by simpa using h3
        have HE := Lib.hid (wantE_2 (base := base) hv (.inr h3'))
        have HR := Lib.hid (wantR_no (d := d) (base := base) (taken := taken) (by rw [HE.out]; decide))
        clear h3
        go_wp2_with (go_at_call 37; refine (in_any _ _ _).mono ?_; rintro e w' ⟨rfl, rfl⟩)
        go_ret2
        exact ⟨by rw [HE.out, HR.out]; rfl, hbel⟩
    · have h1' : inB base 1000000000 = false := by simpa using h1
      have HE := Lib.hid (wantE_2 (taken := taken) hv (.inl h1'))
      have HR := Lib.hid (wantR_no (d := d) (base := base) (taken := taken) (by rw [HE.out]; decide))
      clear h1
      go_wp2_with (go_at_call 37; refine (in_any _ _ _).mono ?_; rintro e w' ⟨rfl, rfl⟩)
      go_ret2
      exact ⟨by rw [HE.out, HR.out]; rfl, hbel⟩
  · have hv' : validD [d] = false := by simpa using hv
    have HE := Lib.hid (wantE_1 (base := base) (taken := taken) hv')
    have HR := Lib.hid (wantR_no (d := d) (base := base) (taken := taken) (by rw [HE.out]; decide))
    clear hv
    go_wp2
    go_ret2
    exact ⟨by rw [HE.out, HR.out]; rfl, hbel⟩

set_option maxRecDepth 100000 in
set_option maxHeartbeats 1000000 in
theorem clone_any (A : Option Addr) (cap : Nat) (xs : List DedT) (w : World) (h : SliceOf encD 6 w w.heap.size A xs) (hl : xs.length ≤ 1000000) :
    Calls Try.prog 40 #[.slice A xs.length cap] w fun e w' => ∃ v, e = .returned v ∧ Own encD 6 33 w' w.heap.size v xs ∧ Below w.heap.size w w' := by
  rcases A with _ | a
  · have hx : xs = [] := by
      rcases xs with _ | ⟨y, ys⟩
      · rfl
      · obtain ⟨b, off, hA, _⟩ := h (by simp)
        cases hA
    subst hx
    have he : ∀ w : World, (binOp .eql 22 (.slice none 0 cap) (.slice none 0 0)).run Try.prog w = .ok (.bool true) w := fun _ => rfl
    go_enter Try.func40, Try.ntmps40
    go_wp2
    go_ret
    exact ⟨_, rfl, Own.nil_ _ _, Below.refl _ _⟩
  · have hlit := Own.lit encD_len w ([] : List DedT) #[] 33 rfl (by simp) (Nat.le_refl _)
    have hS := h.advA (.cells #[] 33)
    have he : ∀ w : World, (binOp .eql 22 (.slice (some a) xs.length cap) (.slice none 0 0)).run Try.prog w = .ok (.bool false) w := fun _ => rfl
    go_enter Try.func40, Try.ntmps40
    go_wp2_with (at_builtin; (refine wpList_append_list (ys := xs) _ _ 22 _ 56 _ infoD Try.underlying22 hlit hS encD_len (by omega) rfl encD_one (by simp; omega) (by omega) (by simp) (by rfl) (by rfl) (by rfl) (by rfl) (by rfl) ?_); intro v2 w6 hown6 hg6)
    go_ret
    exact ⟨v2, rfl, by simpa using hown6, fresh_below hg6⟩

end Go.Proofs.Ytcpkdpflkjjlcaa
