/- Contracts of deduction.Valid and Record and of the reference's in, Valid and Record. Conditions: as stated. -/
import Derived.Test.YtcpkdpflkjjlcaaDed
import Derived.Deep.Light
namespace Go.Proofs.Ytcpkdpflkjjlcaa
open Go.RowKit

theorem okD_eq (xs : List DedT) (i : Nat) (x : DedT) (l : Bool) (hl : i = 0 ∨ (∃ p, xs[i - 1]? = some p ∧ l = Op.bytesLess p.code.toList x.code.toList)) :
    okD xs i x = decide (nameB x.code = true ∧ (i = 0 ∨ l = true) ∧ 0 ≤ x.rank ∧ x.rank ≤ 99 ∧ 0 ≤ x.amount ∧ x.amount ≤ 1000000000 ∧ 0 ≤ x.cap ∧ x.cap ≤ 1000000000 ∧ 0 ≤ x.rate ∧ x.rate ≤ 1000000) := by
  rw [Bool.eq_iff_iff]
  rcases hl with rfl | ⟨p, hp, rfl⟩
  · simp [okD, ascAt, inB, and_assoc]
  · simp [okD, ascAt, inB, hp, and_assoc]
theorem okR_eq (xs : List Elem) (i : Nat) (x : Elem) (l : Bool) (hl : i = 0 ∨ (∃ p, xs[i - 1]? = some p ∧ l = Op.bytesLess p.code.toList x.code.toList)) :
    okR xs i x = decide (nameB x.code = true ∧ (i = 0 ∨ l = true) ∧ 0 ≤ x.amount ∧ x.amount ≤ 1000000000000) := by
  rw [Bool.eq_iff_iff]
  rcases hl with rfl | ⟨p, hp, rfl⟩
  · simp [okR, ascAt, inB, and_assoc]
  · simp [okR, ascAt, inB, hp, and_assoc]

set_option maxHeartbeats 4000000 in
theorem validD_any (A : Option Addr) (cap : Nat) (xs : List DedT) (w : World) (h : SliceOf encD 6 w w.heap.size A xs) (hz : ∀ x ∈ xs, x.code.size ≤ maxLen) (hl : xs.length ≤ 9223372036854775807) :
    Calls Try.prog 16 #[.slice A xs.length cap] w fun e w' => e = .returned (.bool (validD xs)) ∧ Below w.heap.size w w' := by
  have HZ := Lib.hid hz; clear hz
  by_cases hlen : 16 < xs.length
  · have HV : Hid (validD xs = false) := allOk_long hlen
    go_enter Try.func16, Try.ntmps16
    go_wp2
    go_ret
    exact ⟨by rw [HV.out]; rfl, Below.refl _ _⟩
  · have hlen' : xs.length ≤ 16 := by omega
    clear hlen hl
    go_enter Try.func16, Try.ntmps16
    go_wp2
    go_loopw [10] (fun i wr => ∃ k : Nat, k ≤ xs.length ∧ i = .int .i64 k ∧ Hid (∀ j, (hj : j < xs.length) → j < k → okD xs j xs[j] = true) ∧ Below w.heap.size w wr) (fun i _ => xs.length - (intOf i).toNat)
    case atStart => exact ⟨0, by omega, rfl, fun j _ hj => absurd hj (by omega), Below.refl _ _⟩
    case round =>
      obtain ⟨k, hk, rfl, hall, hbel⟩ := hrel
      by_cases hlt : k < xs.length
      · obtain ⟨b, off, rfl, hb, hc⟩ := (h.below hbel).at_ hlt
        have c0 := hc 0 _ rfl
        have c1 := hc 1 _ rfl
        have c2 := hc 2 _ rfl
        have c3 := hc 3 _ rfl
        have c4 := hc 4 _ rfl
        have c5 := hc 5 _ rfl
        simp only [Nat.add_zero] at c0
        have hzk := HZ.out _ (List.getElem_mem hlt)
        have hbs := hbel.size
        have HNO : Hid (okD xs k xs[k] = false → validD xs = false) := allOk_no hlt
        clear hc
        have hB : Below w.heap.size w (wr.alloc (.cells (encD xs[k]).toArray 33)) := hbel.alloc hbs _
        rcases Nat.lt_or_ge 0 k with hk0 | hk0
        rotate_left
        · have hO := okD_eq xs k xs[k] true (.inl (by omega))
          have hg0 : decide ((0 : Int) < (k : Int)) = false := by simp; omega
          have hg1 : decide (0 < k) = false := by simp; omega
          have HO := Lib.hid hO
          clear hO
          go_wp2_with (go_at_call 35; refine (isName_any _ _ hzk).mono ?_; rintro e w' ⟨rfl, rfl⟩)
          · have hf : (!nameB xs[k].code) = true := by assumption
            go_ret
            exact ⟨by rw [HNO.out (by simp at hf; simp [okD, hf])]; rfl, hB⟩
          · have hf : (!nameB xs[k].code) = false := by assumption
            go_quiet (fail)
            go_wp2
            all_goals first
              | (go_ret
                 refine ⟨?_, below_drewN (hbel.alloc hbs _) _⟩
                 have hq : okD xs (k) xs[k] = false := by
                   go_light
                   rw [HO.out]
                   apply decide_eq_false
                   rintro ⟨h1, h2, h3, h4, h5, h6, h7, h8, h9, h10⟩
                   first | omega | (simp_all; done) | (simp_all; omega)
                 rw [HNO.out hq]; rfl)
              | (go_roundw
                 case rel =>
                   have hok : ∀ j, (hj : j < xs.length) → j < k + 1 → okD xs j xs[j] = true := by
                     intro j hj hjk
                     rcases Nat.lt_or_ge j (k) with h1 | h1
                     · exact hall.out j hj h1
                     · obtain rfl : j = k := by omega
                       go_light
                       rw [HO.out]
                       apply decide_eq_true
                       refine ⟨by simpa using hf, by omega, ?_, ?_, ?_, ?_, ?_, ?_, ?_, ?_⟩
                       all_goals first | omega | (simp_all; done) | (simp_all; omega)
                   first | exact ⟨k + 1, by omega, by go_num, hok, below_drewN (hbel.alloc hbs _) _⟩ | ((repeat apply Exists.intro); exact ⟨⟨k + 1, by omega, by go_num, hok, below_drewN (hbel.alloc hbs _) _⟩, rfl⟩)
                 case measure => simp [intOf]; omega)
        · obtain ⟨m, rfl⟩ : ∃ m, k = m + 1 := ⟨k - 1, by omega⟩
          obtain ⟨b', off', hA', hb', hc'⟩ := (h.below hbel).at_ (show m < xs.length by omega)
          injection hA' with hA'
          injection hA' with h1 h2
          subst h1 h2
          have p0 := hc' 0 _ rfl
          simp only [Nat.add_zero] at p0
          have hO := okD_eq xs (m + 1) xs[m + 1] _ (.inr ⟨xs[m], by simp, rfl⟩)
          have HO := Lib.hid hO
          have hbwr : b < wr.heap.size := by omega
          clear hc' hO
          go_wp2_with (go_at_call 35; refine (isName_any _ _ hzk).mono ?_; rintro e w' ⟨rfl, rfl⟩)
          · have hf : (!nameB xs[m + 1].code) = true := by assumption
            go_ret
            exact ⟨by rw [HNO.out (by simp at hf; simp [okD, hf])]; rfl, hB⟩
          · have hf : (!nameB xs[m + 1].code) = false := by assumption
            go_quiet (fail)
            go_wp2
            all_goals first
              | (go_ret
                 refine ⟨?_, below_drewN (hbel.alloc hbs _) _⟩
                 have hq : okD xs (m + 1) xs[m + 1] = false := by
                   go_light
                   rw [HO.out]
                   apply decide_eq_false
                   rintro ⟨h1, h2, h3, h4, h5, h6, h7, h8, h9, h10⟩
                   first | omega | (simp_all; done) | (simp_all; omega)
                 rw [HNO.out hq]; rfl)
              | (go_roundw
                 case rel =>
                   have hok : ∀ j, (hj : j < xs.length) → j < m + 1 + 1 → okD xs j xs[j] = true := by
                     intro j hj hjk
                     rcases Nat.lt_or_ge j (m + 1) with h1 | h1
                     · exact hall.out j hj h1
                     · obtain rfl : j = m + 1 := by omega
                       go_light
                       rw [HO.out]
                       apply decide_eq_true
                       refine ⟨by simpa using hf, .inr (by simp_all), ?_, ?_, ?_, ?_, ?_, ?_, ?_, ?_⟩
                       all_goals first | omega | (simp_all; done) | (simp_all; omega)
                   first | exact ⟨m + 1 + 1, by omega, by go_num, hok, below_drewN (hbel.alloc hbs _) _⟩ | ((repeat apply Exists.intro); exact ⟨⟨m + 1 + 1, by omega, by go_num, hok, below_drewN (hbel.alloc hbs _) _⟩, rfl⟩)
                 case measure => simp [intOf]; omega)
      · go_wp2
        go_ret
        have hv : validD xs = true := allOk_yes hlen' (fun i hi => hall.out i hi (by omega))
        exact ⟨by rw [hv]; rfl, hbel⟩

set_option maxHeartbeats 4000000 in
theorem rec_any (A : Option Addr) (cap : Nat) (xs : List Elem) (w : World) (h : SliceOf encE 2 w w.heap.size A xs) (hz : ∀ x ∈ xs, x.code.size ≤ maxLen) (hl : xs.length ≤ 9223372036854775807) :
    Calls Try.prog 18 #[.slice A xs.length cap] w fun e w' => e = .returned (.bool (recB xs)) ∧ Below w.heap.size w w' := by
  have HZ := Lib.hid hz; clear hz
  by_cases hlen : 128 < xs.length
  · have HV : Hid (recB xs = false) := allOk_long hlen
    go_enter Try.func18, Try.ntmps18
    go_wp2
    go_ret
    exact ⟨by rw [HV.out]; rfl, Below.refl _ _⟩
  · have hlen' : xs.length ≤ 128 := by omega
    clear hlen hl
    go_enter Try.func18, Try.ntmps18
    go_wp2
    go_loopw [10] (fun i wr => ∃ k : Nat, k ≤ xs.length ∧ i = .int .i64 k ∧ Hid (∀ j, (hj : j < xs.length) → j < k → okR xs j xs[j] = true) ∧ Below w.heap.size w wr) (fun i _ => xs.length - (intOf i).toNat)
    case atStart => exact ⟨0, by omega, rfl, fun j _ hj => absurd hj (by omega), Below.refl _ _⟩
    case round =>
      obtain ⟨k, hk, rfl, hall, hbel⟩ := hrel
      by_cases hlt : k < xs.length
      · obtain ⟨b, off, rfl, hb, hc⟩ := (h.below hbel).at_ hlt
        have c0 := hc 0 _ rfl
        have c1 := hc 1 _ rfl
        simp only [Nat.add_zero] at c0
        have hzk := HZ.out _ (List.getElem_mem hlt)
        have hbs := hbel.size
        have HNO : Hid (okR xs k xs[k] = false → recB xs = false) := allOk_no hlt
        clear hc
        have hB : Below w.heap.size w (wr.alloc (.cells (encE xs[k]).toArray 60)) := hbel.alloc hbs _
        rcases Nat.lt_or_ge 0 k with hk0 | hk0
        rotate_left
        · have hO := okR_eq xs k xs[k] true (.inl (by omega))
          have hg0 : decide ((0 : Int) < (k : Int)) = false := by simp; omega
          have hg1 : decide (0 < k) = false := by simp; omega
          have HO := Lib.hid hO
          clear hO
          go_wp2_with (go_at_call 35; refine (isName_any _ _ hzk).mono ?_; rintro e w' ⟨rfl, rfl⟩)
          · have hf : (!nameB xs[k].code) = true := by assumption
            go_ret
            exact ⟨by rw [HNO.out (by simp at hf; simp [okR, hf])]; rfl, hB⟩
          · have hf : (!nameB xs[k].code) = false := by assumption
            go_quiet (fail)
            go_wp2
            all_goals first
              | (go_ret
                 refine ⟨?_, below_drewN (hbel.alloc hbs _) _⟩
                 have hq : okR xs (k) xs[k] = false := by
                   go_light
                   rw [HO.out]
                   apply decide_eq_false
                   rintro ⟨h1, h2, h3, h4⟩
                   first | omega | (simp_all; done) | (simp_all; omega)
                 rw [HNO.out hq]; rfl)
              | (go_roundw
                 case rel =>
                   have hok : ∀ j, (hj : j < xs.length) → j < k + 1 → okR xs j xs[j] = true := by
                     intro j hj hjk
                     rcases Nat.lt_or_ge j (k) with h1 | h1
                     · exact hall.out j hj h1
                     · obtain rfl : j = k := by omega
                       go_light
                       rw [HO.out]
                       apply decide_eq_true
                       refine ⟨by simpa using hf, by omega, ?_, ?_⟩
                       all_goals first | omega | (simp_all; done) | (simp_all; omega)
                   first | exact ⟨k + 1, by omega, by go_num, hok, below_drewN (hbel.alloc hbs _) _⟩ | ((repeat apply Exists.intro); exact ⟨⟨k + 1, by omega, by go_num, hok, below_drewN (hbel.alloc hbs _) _⟩, rfl⟩)
                 case measure => simp [intOf]; omega)
        · obtain ⟨m, rfl⟩ : ∃ m, k = m + 1 := ⟨k - 1, by omega⟩
          obtain ⟨b', off', hA', hb', hc'⟩ := (h.below hbel).at_ (show m < xs.length by omega)
          injection hA' with hA'
          injection hA' with h1 h2
          subst h1 h2
          have p0 := hc' 0 _ rfl
          simp only [Nat.add_zero] at p0
          have hO := okR_eq xs (m + 1) xs[m + 1] _ (.inr ⟨xs[m], by simp, rfl⟩)
          have HO := Lib.hid hO
          have hbwr : b < wr.heap.size := by omega
          clear hc' hO
          go_wp2_with (go_at_call 35; refine (isName_any _ _ hzk).mono ?_; rintro e w' ⟨rfl, rfl⟩)
          · have hf : (!nameB xs[m + 1].code) = true := by assumption
            go_ret
            exact ⟨by rw [HNO.out (by simp at hf; simp [okR, hf])]; rfl, hB⟩
          · have hf : (!nameB xs[m + 1].code) = false := by assumption
            go_quiet (fail)
            go_wp2
            all_goals first
              | (go_ret
                 refine ⟨?_, below_drewN (hbel.alloc hbs _) _⟩
                 have hq : okR xs (m + 1) xs[m + 1] = false := by
                   go_light
                   rw [HO.out]
                   apply decide_eq_false
                   rintro ⟨h1, h2, h3, h4⟩
                   first | omega | (simp_all; done) | (simp_all; omega)
                 rw [HNO.out hq]; rfl)
              | (go_roundw
                 case rel =>
                   have hok : ∀ j, (hj : j < xs.length) → j < m + 1 + 1 → okR xs j xs[j] = true := by
                     intro j hj hjk
                     rcases Nat.lt_or_ge j (m + 1) with h1 | h1
                     · exact hall.out j hj h1
                     · obtain rfl : j = m + 1 := by omega
                       go_light
                       rw [HO.out]
                       apply decide_eq_true
                       refine ⟨by simpa using hf, .inr (by simp_all), ?_, ?_⟩
                       all_goals first | omega | (simp_all; done) | (simp_all; omega)
                   first | exact ⟨m + 1 + 1, by omega, by go_num, hok, below_drewN (hbel.alloc hbs _) _⟩ | ((repeat apply Exists.intro); exact ⟨⟨m + 1 + 1, by omega, by go_num, hok, below_drewN (hbel.alloc hbs _) _⟩, rfl⟩)
                 case measure => simp [intOf]; omega)
      · go_wp2
        go_ret
        have hv : recB xs = true := allOk_yes hlen' (fun i hi => hall.out i hi (by omega))
        exact ⟨by rw [hv]; rfl, hbel⟩

end Go.Proofs.Ytcpkdpflkjjlcaa
