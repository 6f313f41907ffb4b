/- Contracts of the functions on wage types that only read: short, ShortElements, Valid, Find, Same, isAmount, Amount. Conditions: as stated in each theorem. -/
import Derived.Test.YtbiajkknpkeeoaaGen
import Derived.Deep.Light
namespace Go.Proofs.Ytbiajkknpkeeoaa
open Go.RowKit

def okAt (xs : List WageT) (i : Nat) (x : WageT) : Bool :=
  nameB x.code && (decide (i = 0) || (match xs[i - 1]? with | some p => Op.bytesLess p.code.toList x.code.toList | none => true)) && (x.kind == 1 || x.kind == 2) && !(x.kind == 2 && x.attachable) && (decide (1000 ≤ x.account) && decide (x.account ≤ 9999))
def validB (xs : List WageT) : Bool := decide (xs.length ≤ 64) && decide (∀ i, (h : i < xs.length) → okAt xs i xs[i] = true)
theorem validB_no {xs : List WageT} {i : Nat} (h : i < xs.length) (hn : okAt xs i xs[i] = false) : validB xs = false := by
  unfold validB
  simp only [Bool.and_eq_false_iff, decide_eq_false_iff_not]
  right
  intro hh
  have := hh i h
  rw [hn] at this
  cases this
theorem validB_yes {xs : List WageT} (hl : xs.length ≤ 64) (h : ∀ i, (h : i < xs.length) → okAt xs i xs[i] = true) : validB xs = true := by
  unfold validB
  simp only [Bool.and_eq_true, decide_eq_true_eq]
  exact ⟨hl, h⟩

theorem okAt_eq (xs : List WageT) (i : Nat) (x : WageT) (l : Bool) (hl : i = 0 ∨ (∃ p, xs[i - 1]? = some p ∧ l = Op.bytesLess p.code.toList x.code.toList)) :
    okAt xs i x = decide (nameB x.code = true ∧ (i = 0 ∨ l = true) ∧ (x.kind = 1 ∨ x.kind = 2) ∧ ¬ (x.kind = 2 ∧ x.attachable = true) ∧ 1000 ≤ x.account ∧ x.account ≤ 9999) := by
  rw [Bool.eq_iff_iff]
  rcases hl with rfl | ⟨p, hp, rfl⟩
  · simp [okAt, and_assoc]
  · simp [okAt, hp, and_assoc]

set_option maxHeartbeats 2000000 in
theorem valid_any (A : Option Addr) (cap : Nat) (xs : List WageT) (w : World) (h : SliceOf encW 6 w w.heap.size A xs) (hz : ∀ x ∈ xs, x.code.size ≤ maxLen) (hl : xs.length ≤ 9223372036854775807) :
    Calls Try.prog 33 #[.slice A xs.length cap] w fun e w' => e = .returned (.bool (validB xs)) ∧ Below w.heap.size w w' := by
  have HZ := Lib.hid hz; clear hz
  by_cases hlen : 64 < xs.length
  · have HV : Hid (validB xs = false) := by simp [Hid, validB]; intro; omega
    go_enter Try.func33, Try.ntmps33
    go_wp2
    go_ret
    exact ⟨by rw [HV.out]; rfl, Below.refl _ _⟩
  · have hlen' : xs.length ≤ 64 := by omega
    clear hlen hl
    go_enter Try.func33, Try.ntmps33
    go_wp2
    go_loopw [10] (fun i wr => ∃ k : Nat, k ≤ xs.length ∧ i = .int .i64 k ∧ Hid (∀ j, (hj : j < xs.length) → j < k → okAt xs j xs[j] = true) ∧ Below w.heap.size w wr) (fun i _ => xs.length - (intOf i).toNat)
    case atStart => exact ⟨0, by omega, rfl, fun j _ hj => absurd hj (by omega), Below.refl _ _⟩
    case round =>
      obtain ⟨k, hk, rfl, hall, hbel⟩ := hrel
      by_cases hlt : k < xs.length
      · obtain ⟨b, off, rfl, hb, hc⟩ := (h.below hbel).at_ hlt
        have c0 := hc 0 _ rfl
        have c1 := hc 1 _ rfl
        have c2 := hc 2 _ rfl
        have c3 := hc 3 _ rfl
        have c4 := hc 4 _ rfl
        have c5 := hc 5 _ rfl
        simp only [Nat.add_zero] at c0
        have hzk := HZ.out _ (List.getElem_mem hlt)
        have hno : ∀ r, okAt xs k xs[k] = r → Hid (okAt xs k xs[k] = r) := fun r h => h
        have hbs := hbel.size
        have HNO := Lib.hid (@validB_no xs k hlt)
        clear hc
        have hB : Below w.heap.size w (wr.alloc (.cells (encW xs[k]).toArray 68)) := hbel.alloc hbs _
        rcases Nat.lt_or_ge 0 k with hk0 | hk0
        rotate_left
        · have hO := okAt_eq xs k xs[k] true (.inl (by omega))
          have hg0 : decide ((0 : Int) < (k : Int)) = false := by simp; omega
          have hg1 : decide (0 < k) = false := by simp; omega
          have HO := Lib.hid hO
          clear hO
          go_wp2_with (go_at_call 50; refine (isName_any _ _ hzk).mono ?_; rintro e w' ⟨rfl, rfl⟩)
          · have hf : (!nameB xs[k].code) = true := by assumption
            go_ret
            exact ⟨by rw [HNO.out (by simp at hf; simp [okAt, hf])]; rfl, hB⟩
          · have hf : (!nameB xs[k].code) = false := by assumption
            go_quiet (fail)
            go_wp2
            all_goals first
              | (go_ret
                 refine ⟨?_, below_drewN (hbel.alloc hbs _) _⟩
                 have hq : okAt xs k xs[k] = false := by
                   go_light
                   rw [HO.out]
                   apply decide_eq_false
                   rintro ⟨h1, h2, h3, h4, h5, h6⟩
                   first | omega | (simp_all; done) | (simp_all; omega)
                 rw [HNO.out hq]; rfl)
              | (go_roundw
                 case rel =>
                   have hok : ∀ j, (hj : j < xs.length) → j < k + 1 → okAt xs j xs[j] = true := by
                     intro j hj hjk
                     obtain rfl : j = k := by omega
                     go_light
                     rw [HO.out]
                     apply decide_eq_true
                     refine ⟨by simpa using hf, by omega, ?_, ?_, ?_, ?_⟩
                     all_goals first | omega | (simp_all; done) | (simp_all; omega)
                   first | exact ⟨k + 1, by omega, by go_num, hok, below_drewN (hbel.alloc hbs _) _⟩ | ((repeat apply Exists.intro); exact ⟨⟨k + 1, by omega, by go_num, hok, below_drewN (hbel.alloc hbs _) _⟩, rfl⟩)
                 case measure => simp [intOf]; omega)
        · obtain ⟨m, rfl⟩ : ∃ m, k = m + 1 := ⟨k - 1, by omega⟩
          obtain ⟨b', off', hA', hb', hc'⟩ := (h.below hbel).at_ (show m < xs.length by omega)
          injection hA' with hA'
          injection hA' with h1 h2
          subst h1 h2
          have p0 := hc' 0 _ rfl
          simp only [Nat.add_zero] at p0
          have hO := okAt_eq xs (m + 1) xs[m + 1] _ (.inr ⟨xs[m], by simp, rfl⟩)
          have HO := Lib.hid hO
          have hbwr : b < wr.heap.size := by omega
          clear hc' hO
          go_wp2_with (go_at_call 50; refine (isName_any _ _ hzk).mono ?_; rintro e w' ⟨rfl, rfl⟩)
          · have hf : (!nameB xs[m + 1].code) = true := by assumption
            go_ret
            exact ⟨by rw [HNO.out (by simp at hf; simp [okAt, hf])]; rfl, hB⟩
          · have hf : (!nameB xs[m + 1].code) = false := by assumption
            go_quiet (fail)
            go_wp2
            all_goals first
              | (go_ret
                 refine ⟨?_, below_drewN (hbel.alloc hbs _) _⟩
                 have hq : okAt xs (m + 1) xs[m + 1] = false := by
                   go_light
                   rw [HO.out]
                   apply decide_eq_false
                   rintro ⟨h1, h2, h3, h4, h5, h6⟩
                   first | omega | (simp_all; done) | (simp_all; omega)
                 rw [HNO.out hq]; rfl)
              | (go_roundw
                 case rel =>
                   have hok : ∀ j, (hj : j < xs.length) → j < m + 1 + 1 → okAt xs j xs[j] = true := by
                     intro j hj hjk
                     rcases Nat.lt_or_ge j (m + 1) with h1 | h1
                     · exact hall.out j hj h1
                     · obtain rfl : j = m + 1 := by omega
                       go_light
                       rw [HO.out]
                       apply decide_eq_true
                       refine ⟨by simpa using hf, .inr (by simp_all), ?_, ?_, ?_, ?_⟩
                       all_goals first | omega | (simp_all; done) | (simp_all; omega)
                   first | exact ⟨m + 1 + 1, by omega, by go_num, hok, below_drewN (hbel.alloc hbs _) _⟩ | ((repeat apply Exists.intro); exact ⟨⟨m + 1 + 1, by omega, by go_num, hok, below_drewN (hbel.alloc hbs _) _⟩, rfl⟩)
                 case measure => simp [intOf]; omega)
      · go_wp2
        go_ret
        exact ⟨by rw [validB_yes hlen' (fun i hi => hall.out i hi (by omega))]; rfl, hbel⟩

end Go.Proofs.Ytbiajkknpkeeoaa
