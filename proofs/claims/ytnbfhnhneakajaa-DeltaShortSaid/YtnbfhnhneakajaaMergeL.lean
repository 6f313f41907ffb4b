/- Contracts of payrollref34.trim, Merge and Compare. Conditions: strings' lengths fit the model, lists' lengths fit an int. -/
import Derived.Test.YtnbfhnhneakajaaPutL
import Derived.StillTailTactics
namespace Go.Proofs.Ytnbfhnhneakajaa
open Go.RowKit

def anyOver (l : List LineT) : Bool := l.any fun x => !maxN x.amount
def mErr (l : List LineT) : Int := if 65536 < l.length then 3 else if l.any (fun x => !formB x) then 1 else if anyOver (RL.sums l) then 4 else 0
def mR (l : List LineT) : List LineT := if mErr l = 0 then (RL.sums l).filter RL.nz else []
def cmpL (x y : List LineT) : List LineT := (x.map RL.neg).foldl RL.put y
def cErr (a b : List LineT) : Int := if mErr a ≠ 0 then mErr a else if mErr b ≠ 0 then mErr b else if anyOver (cmpL (mR a) (mR b)) then 4 else 0
def cR (a b : List LineT) : List LineT := if cErr a b = 0 then (cmpL (mR a) (mR b)).filter RL.nz else []
theorem Own.form2 {α : Type} {enc : α → List Value} {k : Nat} {e : TypeId} {w : World} {base : Nat} {v : Value} {xs : List α} (h : Own enc k e w base v xs) (hk : ∀ x, (enc x).length = k) :
    ∃ A c, v = .slice A xs.length c ∧ SliceOf enc k w w.heap.size A xs ∧ (∀ a, A = some a → base ≤ a.block) ∧ xs.length ≤ c ∧ c ≤ maxLen := by
  obtain ⟨A, c, hv, hs, hb, hl⟩ := h.form hk
  refine ⟨A, c, hv, hs, hb, ?_⟩
  rcases h.2 with ⟨rfl, h0⟩ | ⟨g, cap, cur, rfl, _, _, hn, hm, _⟩
  · injection hv with _ h1 h2
    subst h2
    exact ⟨by omega, by unfold maxLen; omega⟩
  · injection hv with _ _ h2
    subst h2
    exact ⟨hn, hm⟩
def trimR (l : List LineT) : List LineT := if anyOver l then [] else l.filter RL.nz
theorem over_yes {l : List LineT} {k : Nat} (h : k < l.length) (hn : ¬ maxN l[k].amount = true) : anyOver l = true := List.any_eq_true.2 ⟨l[k], List.getElem_mem _, by simpa using hn⟩
theorem over_no {l : List LineT} (h : ∀ j, (hj : j < l.length) → maxN l[j].amount = true) : anyOver l = false := by
  rw [anyOver, List.any_eq_false]
  intro x hx
  obtain ⟨j, hj, rfl⟩ := List.mem_iff_getElem.1 hx
  simp [h j hj]

set_option maxRecDepth 100000 in
set_option maxHeartbeats 4000000 in
theorem trim_any (A : Option Addr) (cap : Nat) (L : List LineT) (w : World) (h : SliceOf encL 3 w w.heap.size A L) (hl : L.length ≤ 1000000) :
    Calls Try.prog 43 #[.slice A L.length cap] w fun r w' => ∃ v, r = .returned (.tuple #[v, .bool (!anyOver L)]) ∧ Own encL 3 56 w' w.heap.size v (trimR L) ∧ Below w.heap.size w w' := by
  go_enter Try.func43, Try.ntmps43
  go_wp2
  go_loopw [4, 5] (fun v i wr => ∃ k : Nat, k ≤ L.length ∧ i = .int .i64 k ∧ Hid (∀ j, (hj : j < L.length) → j < k → maxN L[j].amount = true) ∧ Own encL 3 56 wr w.heap.size v ((L.take k).filter RL.nz) ∧ Below w.heap.size w wr) (fun _ i _ => L.length - (intOf i).toNat)
  case atStart => exact ⟨0, by omega, rfl, fun j _ hj => absurd hj (by omega), Own.nil_ _ _, Below.refl _ _⟩
  case round =>
    obtain ⟨m, hm, rfl, hall, hown6, hbel⟩ := hrel
    have hbs := hbel.size
    by_cases hlt : m < L.length
    · obtain ⟨b, off, rfl, hb, hc⟩ := (h.below hbel).at_ hlt
      have c0 := hc 0 _ rfl
      have c1 := hc 1 _ rfl
      have c2 := hc 2 _ rfl
      simp only [Nat.add_zero] at c0
      clear hc
      have et : L.take (m + 1) = L.take m ++ [L[m]] := List.take_succ_eq_append_getElem hlt
      have ET := Lib.hid et
      clear et
      have hfl : ((L.take m).filter RL.nz).length ≤ m := Nat.le_trans (List.length_filter_le _ _) (by simp; omega)
      by_cases hn : maxN L[m].amount = true
      · have hn2 : -1000000000000 ≤ L[m].amount ∧ L[m].amount ≤ 1000000000000 := by simpa [maxN] using hn
        obtain ⟨hn3, hn4⟩ := hn2
        have hall1 : ∀ j, (hj : j < L.length) → j < m + 1 → maxN L[j].amount = true := by
          intro j hj hjk
          rcases Nat.lt_or_ge j m with h1 | h1
          · exact hall.out j hj h1
          · obtain rfl : j = m := by omega
            exact hn
        have HALL := Lib.hid hall1
        clear hall1 hn
        by_cases hz : (L[m].amount != 0) = true
        · have HF : Hid (((L.take (m + 1)).filter RL.nz) = (L.take m).filter RL.nz ++ [⟨L[m].kind, L[m].code, L[m].amount⟩]) := by
            rw [Hid, ET.out, List.filter_append]
            have : RL.nz L[m] = true := hz
            simp [this]
          go_wp2_with (at_builtin; (refine wpList_append_one _ _ 23 ⟨L[m].kind, L[m].code, L[m].amount⟩ _ 32 _ infoL Try.underlying23 hown6 encL_len (by omega) rfl (encL_one _) (by omega) (by omega) (by omega) (by rfl) (by rfl) (by rfl) (by rfl) (by simp) (by rfl) ?_); intro v2 w6 hown7 hg7)
          have hr6 := fun q hq => (hown6.block_lt (g := q) hq).1
          rw [← HF.out] at hown7
          have hb7 : Below w.heap.size w w6 := bel_only hbel hg7 (fun g e => hr6 g e)
          go_roundw
          case rel =>
            have hfin : ∃ k' : Nat, k' ≤ L.length ∧ Value.int .i64 ((m : Int) + 1) = .int .i64 k' ∧ Hid (∀ j, (hj : j < L.length) → j < k' → maxN L[j].amount = true) ∧ Own encL 3 56 w6 w.heap.size v2 ((L.take k').filter RL.nz) ∧ Below w.heap.size w w6 := ⟨m + 1, by omega, by go_num, HALL, hown7, hb7⟩
            first | exact hfin | ((repeat apply Exists.intro); exact ⟨hfin, rfl⟩)
          case measure => simp [intOf]; omega
        · have hz' : (L[m].amount != 0) = false := by simpa using hz
          have HF : Hid (((L.take (m + 1)).filter RL.nz) = (L.take m).filter RL.nz) := by
            rw [Hid, ET.out, List.filter_append]
            have : RL.nz L[m] = false := hz'
            simp [this]
          clear hz
          rw [← HF.out] at hown6
          go_wp2
          go_roundw
          case rel =>
            have hfin : ∃ k' : Nat, k' ≤ L.length ∧ Value.int .i64 ((m : Int) + 1) = .int .i64 k' ∧ Hid (∀ j, (hj : j < L.length) → j < k' → maxN L[j].amount = true) ∧ Own encL 3 56 wr w.heap.size u4 ((L.take k').filter RL.nz) ∧ Below w.heap.size w wr := ⟨m + 1, by omega, by go_num, HALL, hown6, hbel⟩
            first | exact hfin | ((repeat apply Exists.intro); exact ⟨hfin, rfl⟩)
          case measure => simp [intOf]; omega
      · have HO := Lib.hid (over_yes hlt hn)
        have hfail : ∀ (W : World), Below w.heap.size w W → ∃ v, Ending.returned (.tuple #[.slice none 0 0, .bool false]) = .returned (.tuple #[v, .bool (!anyOver L)]) ∧ Own encL 3 56 W w.heap.size v (trimR L) ∧ Below w.heap.size w W := by
          intro W hW
          refine ⟨.slice none 0 0, by rw [HO.out]; rfl, ?_, hW⟩
          rw [trimR, HO.out, if_pos rfl]
          exact Own.nil_ _ _
        have HFAIL := Lib.hid hfail
        clear hfail
        by_cases h1 : -1000000000000 ≤ L[m].amount
        · have h2 : ¬ L[m].amount ≤ 1000000000000 := fun h2 => hn (by simp [maxN, h1, h2])
          clear hn
          go_wp2
          go_ret2
          exact HFAIL.out _ hbel
        · clear hn
          go_wp2
          go_ret2
          exact HFAIL.out _ hbel
    · have HO := Lib.hid (over_no (fun j hj => hall.out j hj (by omega)))
      have ek : L.take m = L := List.take_of_length_le (by omega)
      rw [ek] at hown6
      clear ek
      go_wp2
      go_ret2
      refine ⟨_, by rw [HO.out]; rfl, ?_, hbel⟩
      rw [trimR, HO.out, if_neg (by simp)]
      exact hown6

theorem sums_take (xs : List LineT) (k : Nat) (h : k < xs.length) : RL.put (RL.sums (xs.take k)) xs[k] = RL.sums (xs.take (k + 1)) := by
  rw [List.take_succ_eq_append_getElem h, Rec.sums_snoc]
theorem form_amt {x : LineT} (h : formB x = true) : -1000000000000 ≤ x.amount ∧ x.amount ≤ 1000000000000 := by
  simp [formB, maxN] at h
  omega
theorem mErr_cases (l : List LineT) (h1 : l.length ≤ 65536) (h2 : l.any (fun x => !formB x) = false) : mErr l = if anyOver (RL.sums l) then 4 else 0 := by
  rw [mErr, if_neg (by omega), h2, if_neg (by simp)]

set_option maxRecDepth 100000 in
set_option maxHeartbeats 4000000 in
theorem merge34_any (A : Option Addr) (cap : Nat) (xs : List LineT) (w : World) (h : SliceOf encL 3 w w.heap.size A xs) (hz : ∀ x ∈ xs, x.code.size ≤ maxLen) (hl : xs.length ≤ 9223372036854775807) :
    Calls Try.prog 25 #[.slice A xs.length cap] w fun r w' => ∃ v, r = .returned (.tuple #[v, .int .i64 (mErr xs)]) ∧ Own encL 3 56 w' w.heap.size v (mR xs) ∧ Below w.heap.size w w' := by
  have HZ := Lib.hid hz; clear hz
  have fail_ : ∀ (n : Int) (W : World), n ≠ 0 → mErr xs = n → Below w.heap.size w W → ∃ v, Ending.returned (.tuple #[.slice none 0 0, .int .i64 n]) = .returned (.tuple #[v, .int .i64 (mErr xs)]) ∧ Own encL 3 56 W w.heap.size v (mR xs) ∧ Below w.heap.size w W := by
    intro n W hn he hb
    refine ⟨.slice none 0 0, by rw [he], ?_, hb⟩
    rw [mR, if_neg (by rw [he]; exact hn)]
    exact Own.nil_ _ _
  have FAIL := Lib.hid fail_
  clear fail_
  by_cases hlen : 65536 < xs.length
  · have HP : Hid (mErr xs = 3) := by simp only [Hid, mErr, if_pos hlen]
    go_enter Try.func25, Try.ntmps25
    go_wp2
    go_ret2
    exact FAIL.out 3 _ (by omega) HP.out (Below.refl _ _)
  · have hlen' : xs.length ≤ 65536 := by omega
    clear hlen hl
    go_enter Try.func25, Try.ntmps25
    go_wp2
    go_loopw [4, 5] (fun v i wr => ∃ k : Nat, k ≤ xs.length ∧ i = .int .i64 k ∧ Hid (∀ j, (hj : j < xs.length) → j < k → formB xs[j] = true) ∧ Own encL 3 56 wr w.heap.size v (RL.sums (xs.take k)) ∧ RL.Bdd (k * 1000000000000) (RL.sums (xs.take k)) ∧ (RL.sums (xs.take k)).length ≤ k ∧ Below w.heap.size w wr) (fun _ i _ => xs.length - (intOf i).toNat)
    case atStart => exact ⟨0, by omega, rfl, fun j _ hj => absurd hj (by omega), Own.nil_ _ _, (fun x hx => by simp [Rec.sums] at hx), by simp [Rec.sums], Below.refl _ _⟩
    case round =>
      obtain ⟨k, hk, rfl, hall, hown, hbd, hlk, hbel⟩ := hrel
      have hbs := hbel.size
      obtain ⟨A5, c5, rfl, hS5, hB5, hlc5, hcm5⟩ := hown.form2 encL_len
      by_cases hlt : k < xs.length
      · obtain ⟨b, off, rfl, hb, hc⟩ := (h.below hbel).at_ hlt
        have c0 := hc 0 _ rfl
        have c1 := hc 1 _ rfl
        have c2 := hc 2 _ rfl
        simp only [Nat.add_zero] at c0
        clear hc
        have hzk := HZ.out _ (List.getElem_mem hlt)
        go_wp2_with fail
        refine (form32_any xs[k] _ hzk).mono ?_
        rintro e w1 ⟨rfl, hb1⟩
        have hbel1 := bel_adv hbel hb1
        obtain ⟨b', off', hA', hb', hc'⟩ := (h.below hbel1).at_ hlt
        injection hA' with hA'
        injection hA' with q1 q2
        subst q1 q2
        have d0 := hc' 0 _ rfl
        have d1 := hc' 1 _ rfl
        have d2 := hc' 2 _ rfl
        simp only [Nat.add_zero] at d0
        clear hc'
        rcases hf : formB xs[k] with _ | _
        · have HP : Hid (mErr xs = 1) := by
            have h7 : xs.any (fun x => !formB x) = true := List.any_eq_true.2 ⟨xs[k], List.getElem_mem _, by simp [hf]⟩
            simp only [Hid, mErr, if_neg (show ¬ 65536 < xs.length by omega), h7, if_true]
          clear hf
          go_wp2
          go_ret2
          exact FAIL.out 1 _ (by omega) HP.out hbel1
        · have ha := form_amt hf
          obtain ⟨ha1, ha2⟩ := ha
          have HF := Lib.hid hf
          clear hf
          have HBD := Lib.hid hbd
          go_wp2_with fail
          refine (putL_any A5 c5 (RL.sums (xs.take k)) xs[k] _ (hS5.adv hb1) hlc5 hcm5 (by omega) (fun x hx => by have h1 := HBD.out x hx; have h2 : RL.amt x = x.amount := rfl; omega) (by omega) (by omega)).mono ?_
          rintro e w2 ⟨v2, rfl, hown2, hb2⟩
          have hbel2 := bel_adv hbel1 hb2
          have hbd2 : RL.Bdd ((k + 1 : Nat) * 1000000000000) (RL.sums (xs.take (k + 1))) := by
            rw [← sums_take xs k hlt]
            have := Rec.Bdd.put RL_law HBD.out (C := 1000000000000) (e := xs[k]) (by omega) (by omega) ha1 ha2
            intro x hx
            have := this x hx
            omega
          have hln2 := Rec.put_length (R := RL) (RL.sums (xs.take k)) xs[k]
          rw [sums_take xs k hlt] at hown2 hln2
          go_wp2
          go_roundw
          case rel =>
            have hfin : ∃ k' : Nat, k' ≤ xs.length ∧ Value.int .i64 ((k : Int) + 1) = .int .i64 k' ∧ Hid (∀ j, (hj : j < xs.length) → j < k' → formB xs[j] = true) ∧ Own encL 3 56 w2 w.heap.size v2 (RL.sums (xs.take k')) ∧ RL.Bdd (k' * 1000000000000) (RL.sums (xs.take k')) ∧ (RL.sums (xs.take k')).length ≤ k' ∧ Below w.heap.size w w2 := by
              refine ⟨k + 1, by omega, by go_num, fun j hj hjk => ?_, hown2.weaken (by have := hbel1.size; omega), hbd2, by omega, hbel2⟩
              rcases Nat.lt_or_ge j k with h1 | h1
              · exact hall.out j hj h1
              · obtain rfl : j = k := by omega
                exact HF.out
            first | exact hfin | ((repeat apply Exists.intro); exact ⟨hfin, rfl⟩)
          case measure => simp [intOf]; omega
      · have h1 : Hid (xs.any (fun x => !formB x) = false) := by
          rw [Hid, List.any_eq_false]
          intro x hx
          obtain ⟨j, hj, rfl⟩ := List.mem_iff_getElem.1 hx
          simp [hall.out j hj (by omega)]
        have ek : xs.take k = xs := List.take_of_length_le (by omega)
        rw [ek] at hown hbd hlk hS5 hlc5
        rw [show (RL.sums (xs.take k)).length = (RL.sums xs).length by rw [ek]]
        have HM := Lib.hid (mErr_cases xs hlen' h1.out)
        clear hall ek
        go_wp2_with fail
        refine (trim_any A5 c5 (RL.sums xs) _ hS5 (by omega)).mono ?_
        rintro e w1 ⟨v1, rfl, hown1, hb1⟩
        have hbel1 := bel_adv hbel hb1
        rcases hov : anyOver (RL.sums xs) with _ | _
        · have HP : Hid (mErr xs = 0) := by rw [Hid, HM.out, hov]; rfl
          have HR : Hid (mR xs = trimR (RL.sums xs)) := by rw [Hid, mR, if_pos HP.out, trimR, hov]; rfl
          go_wp2
          go_ret2
          refine ⟨_, by rw [HP.out]; rfl, ?_, hbel1⟩
          rw [HR.out]
          exact hown1.weaken hbs
        · have HP : Hid (mErr xs = 4) := by rw [Hid, HM.out, hov]; rfl
          go_wp2
          go_ret2
          exact FAIL.out 4 _ (by omega) HP.out hbel1

end Go.Proofs.Ytnbfhnhneakajaa
