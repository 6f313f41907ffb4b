/- Contracts of delta.Postings and payrollref37.Postings. Conditions: as stated. -/
import Derived.Test.YtnbfhnhneakajaaCompare2
import Derived.Test.YtnbfhnhneakajaaDeltaN
namespace Go.Proofs.Ytnbfhnhneakajaa
open Go.RowKit

def postR (r e p : Int) (l : List LineT) : List PostT := l.map fun x => ⟨r, e, p, x⟩
def rangeB (r e p : Int) : Bool := inB r 1 256 && inB e 1 2147483647 && inB p 0 84005
def pErr (r e p : Int) (old now : List LineT) : Int := if cErr old now ≠ 0 then cErr old now else if rangeB r e p then 0 else 2
def pR (r e p : Int) (old now : List LineT) : List PostT := if pErr r e p old now = 0 then postR r e p (cR old now) else []
theorem cmpL_len (x y : List LineT) : (cmpL x y).length ≤ y.length + x.length := by
  have := Rec.foldl_length (R := RL) (x.map RL.neg) y
  simpa [cmpL] using this
theorem cR_len (a b : List LineT) : (cR a b).length ≤ 131072 := by
  rw [cR]; split
  · have h1 := List.length_filter_le RL.nz (cmpL (mR a) (mR b))
    have h2 := cmpL_len (mR a) (mR b)
    have h3 := mR_len a
    have h4 := mR_len b
    omega
  · simp
theorem pR_nil {r e p : Int} {a b : List LineT} {n : Int} (h : pErr r e p a b = n) (hn : n ≠ 0) : pR r e p a b = [] := by rw [pR, if_neg (by rw [h]; exact hn)]
theorem postR_take (r e p : Int) (l : List LineT) (k : Nat) (h : k < l.length) : postR r e p (l.take (k + 1)) = postR r e p (l.take k) ++ [⟨r, e, p, l[k]⟩] := by
  rw [postR, postR, List.take_succ_eq_append_getElem h, List.map_append]; rfl
theorem postR_len (r e p : Int) (l : List LineT) : (postR r e p l).length = l.length := by simp [postR]
def PostsPost (m : List PostT) (er : Int) (w : World) (e : Ending) (w' : World) : Prop :=
  ∃ v, e = .returned (.tuple #[v, .int .i64 er]) ∧ Own encP 6 58 w' w.heap.size v m ∧ Below w.heap.size w w'
theorem PostsPost.fail {m : List PostT} {er n : Int} {w W : World} (hm : m = []) (he : er = n) (hb : Below w.heap.size w W) : PostsPost m er w (.returned (.tuple #[.slice none 0 0, .int .i64 n])) W := by
  subst hm he
  exact ⟨_, rfl, Own.nil_ _ _, hb⟩

set_option maxRecDepth 100000 in
set_option maxHeartbeats 4000000 in
theorem postings_any (r em p : Int) (A B : Option Addr) (c d : Nat) (xs ys : List LineT) (w : World) (h : SliceOf encL 3 w w.heap.size A xs) (hz : ∀ x ∈ xs, x.code.size ≤ maxLen) (hl : xs.length ≤ 9223372036854775806)
    (hy : SliceOf encL 3 w w.heap.size B ys) (hzy : ∀ x ∈ ys, x.code.size ≤ maxLen) (hly : ys.length ≤ 9223372036854775806) :
    Calls Try.prog 16 #[.int .i64 r, .int .i64 em, .int .i64 p, .slice A xs.length c, .slice B ys.length d] w (PostsPost (pR r em p xs ys) (pErr r em p xs ys) w) := by
  go_enter Try.func16, Try.ntmps16
  go_wp2_with fail
  refine (compareP_any A B c d xs ys _ h hz hl hy hzy hly).mono ?_
  rintro e w1 ⟨A1, c1, rfl, hS1, hc1, hcm1, hb1⟩
  by_cases h0 : cErr xs ys = 0
  · have H0 := Lib.hid h0
    rw [h0]
    clear h0 h hy hz hzy
    rcases hrg : rangeB r em p with _ | _
    · have HP : Hid (pErr r em p xs ys = 2) := by rw [Hid, pErr, if_neg (by simp [H0.out]), hrg]; rfl
      have HRG := Lib.hid hrg
      clear hrg
      by_cases c0 : inB r 1 256 = true
      rotate_left
      · go_wp2_with (go_at_call 36; refine (within_any _ _ _ _).mono ?_; rintro e w' ⟨rfl, rfl⟩)
        go_ret2
        exact PostsPost.fail (pR_nil HP.out (by omega)) HP.out hb1
      by_cases c1 : inB em 1 2147483647 = true
      rotate_left
      · go_wp2_with (go_at_call 36; refine (within_any _ _ _ _).mono ?_; rintro e w' ⟨rfl, rfl⟩)
        go_ret2
        exact PostsPost.fail (pR_nil HP.out (by omega)) HP.out hb1
      by_cases c2 : inB p 0 84005 = true
      rotate_left
      · go_wp2_with (go_at_call 36; refine (within_any _ _ _ _).mono ?_; rintro e w' ⟨rfl, rfl⟩)
        go_ret2
        exact PostsPost.fail (pR_nil HP.out (by omega)) HP.out hb1
      skip
      exfalso
      have := HRG.out
      simp [rangeB, c0, c1, c2] at this
    · have HP : Hid (pErr r em p xs ys = 0) := by rw [Hid, pErr, if_neg (by simp [H0.out]), hrg]; rfl
      have HR : Hid (pR r em p xs ys = postR r em p (cR xs ys)) := by rw [Hid, pR, if_pos HP.out]
      simp only [rangeB, Bool.and_eq_true] at hrg
      obtain ⟨⟨o1, o2⟩, o3⟩ := hrg
      have hLl := cR_len xs ys
      generalize cR xs ys = L at *
      go_wp2_with (go_at_call 36; refine (within_any _ _ _ _).mono ?_; rintro e w' ⟨rfl, rfl⟩)
      go_loopw [14, 41] (fun v i wr => ∃ k : Nat, k ≤ L.length ∧ i = .int .i64 k ∧ Own encP 6 58 wr w1.heap.size v (postR r em p (L.take k)) ∧ Below w1.heap.size w1 wr) (fun _ i _ => L.length - (intOf i).toNat)
      case atStart => exact ⟨0, by omega, rfl, Own.nil_ _ _, Below.refl _ _⟩
      case round =>
        obtain ⟨k, hk, rfl, hown, hbel⟩ := hrel
        have hbs := hbel.size
        by_cases hlt : k < L.length
        · obtain ⟨b, off, rfl, hb, hc⟩ := (hS1.below hbel).at_ hlt
          have c0 := hc 0 _ rfl
          have c1 := hc 1 _ rfl
          have c2 := hc 2 _ rfl
          simp only [Nat.add_zero] at c0
          clear hc
          have HT := Lib.hid (postR_take r em p L k hlt)
          have hfl : (postR r em p (L.take k)).length ≤ k := by rw [postR_len]; simp; omega
          have hown1 := hown.alloc (Obj.cells #[.int .i64 L[k].kind, .string L[k].code, .int .i64 L[k].amount] 56)
          have hbel1 := bel_alloc hbel (Obj.cells #[.int .i64 L[k].kind, .string L[k].code, .int .i64 L[k].amount] 56)
          have hbs1 := hbel1.size
          go_wp2_with (at_builtin; (refine wpList_append_one _ _ 30 ⟨r, em, p, ⟨L[k].kind, L[k].code, L[k].amount⟩⟩ _ 56 _ infoP Try.underlying30 hown1 encP_len (by omega) rfl (encP_one _) (by omega) (by omega) hbs1 (by rfl) (by rfl) (by rfl) (by rfl) (by simp) (by rfl) ?_); intro v2 w6 hown7 hg7)
          have hr6 := fun q hq => (hown1.block_lt (g := q) hq).1
          rw [← HT.out] at hown7
          have hb7 : Below w1.heap.size w1 w6 := bel_only hbel1 hg7 (fun g e => hr6 g e)
          go_roundw
          case rel =>
            have hfin : ∃ k' : Nat, k' ≤ L.length ∧ Value.int .i64 ((k : Int) + 1) = .int .i64 k' ∧ Own encP 6 58 w6 w1.heap.size v2 (postR r em p (L.take k')) ∧ Below w1.heap.size w1 w6 := ⟨k + 1, by omega, by go_num, hown7, hb7⟩
            first | exact hfin | ((repeat apply Exists.intro); exact ⟨hfin, rfl⟩)
          case measure => simp [intOf]; omega
        · have ek : L.take k = L := List.take_of_length_le (by omega)
          rw [ek] at hown
          clear ek
          go_wp2
          go_ret2
          refine ⟨_, by rw [HP.out]; rfl, ?_, bel_adv hb1 hbel⟩
          rw [HR.out]
          exact hown.weaken hb1.size
  · have h0' : (cErr xs ys != 0) = true := by simpa using h0
    have HE : Hid (pErr r em p xs ys = cErr xs ys) := by rw [Hid, pErr, if_pos h0]
    have H0 := Lib.hid h0
    clear h0
    go_wp2
    go_ret2
    exact PostsPost.fail (pR_nil HE.out H0.out) HE.out hb1

set_option maxRecDepth 100000 in
set_option maxHeartbeats 4000000 in
theorem postings37_any (r em p : Int) (A B : Option Addr) (c d : Nat) (xs ys : List LineT) (w : World) (h : SliceOf encL 3 w w.heap.size A xs) (hz : ∀ x ∈ xs, x.code.size ≤ maxLen) (hl : xs.length ≤ 9223372036854775806)
    (hy : SliceOf encL 3 w w.heap.size B ys) (hzy : ∀ x ∈ ys, x.code.size ≤ maxLen) (hly : ys.length ≤ 9223372036854775806) :
    Calls Try.prog 17 #[.int .i64 r, .int .i64 em, .int .i64 p, .slice A xs.length c, .slice B ys.length d] w (PostsPost (pR r em p xs ys) (pErr r em p xs ys) w) := by
  go_enter Try.func17, Try.ntmps17
  go_wp2_with fail
  refine (compare34_any A B c d xs ys _ h hz hl hy hzy hly).mono ?_
  rintro e w1 ⟨v1, rfl, hown1, hb1⟩
  obtain ⟨A1, c1, rfl, hS1, hB1, hc1, hcm1⟩ := hown1.form2 encL_len
  by_cases h0 : cErr xs ys = 0
  · have H0 := Lib.hid h0
    rw [h0]
    clear h0 h hy hz hzy hown1 hB1
    rcases hrg : rangeB r em p with _ | _
    · have HP : Hid (pErr r em p xs ys = 2) := by rw [Hid, pErr, if_neg (by simp [H0.out]), hrg]; rfl
      have HRG := Lib.hid hrg
      clear hrg
      by_cases c0 : 1 ≤ r
      rotate_left
      · go_wp2
        go_ret2
        exact PostsPost.fail (pR_nil HP.out (by omega)) HP.out hb1
      by_cases c1 : r ≤ 256
      rotate_left
      · go_wp2
        go_ret2
        exact PostsPost.fail (pR_nil HP.out (by omega)) HP.out hb1
      by_cases c2 : 1 ≤ em
      rotate_left
      · go_wp2
        go_ret2
        exact PostsPost.fail (pR_nil HP.out (by omega)) HP.out hb1
      by_cases c3 : em ≤ 2147483647
      rotate_left
      · go_wp2
        go_ret2
        exact PostsPost.fail (pR_nil HP.out (by omega)) HP.out hb1
      by_cases c4 : 0 ≤ p
      rotate_left
      · go_wp2
        go_ret2
        exact PostsPost.fail (pR_nil HP.out (by omega)) HP.out hb1
      by_cases c5 : p ≤ 84005
      rotate_left
      · go_wp2
        go_ret2
        exact PostsPost.fail (pR_nil HP.out (by omega)) HP.out hb1
      skip
      exfalso
      have := HRG.out
      rw [rangeB, inB_yes c0 c1, inB_yes c2 c3, inB_yes c4 c5] at this
      cases this
    · have HP : Hid (pErr r em p xs ys = 0) := by rw [Hid, pErr, if_neg (by simp [H0.out]), hrg]; rfl
      have HR : Hid (pR r em p xs ys = postR r em p (cR xs ys)) := by rw [Hid, pR, if_pos HP.out]
      have hrg2 : (1 ≤ r ∧ r ≤ 256) ∧ (1 ≤ em ∧ em ≤ 2147483647) ∧ 0 ≤ p ∧ p ≤ 84005 := by simpa [rangeB, inB, and_assoc] using hrg
      obtain ⟨⟨o1, o2⟩, ⟨o3, o4⟩, o5, o6⟩ := hrg2
      clear hrg
      have hLl := cR_len xs ys
      generalize cR xs ys = L at *
      go_wp2
      go_loopw [14, 15] (fun v i wr => ∃ k : Nat, k ≤ L.length ∧ i = .int .i64 k ∧ Own encP 6 58 wr w1.heap.size v (postR r em p (L.take k)) ∧ Below w1.heap.size w1 wr) (fun _ i _ => L.length - (intOf i).toNat)
      case atStart => exact ⟨0, by omega, rfl, Own.nil_ _ _, Below.refl _ _⟩
      case round =>
        obtain ⟨k, hk, rfl, hown, hbel⟩ := hrel
        have hbs := hbel.size
        by_cases hlt : k < L.length
        · obtain ⟨b, off, rfl, hb, hc⟩ := (hS1.below hbel).at_ hlt
          have c0 := hc 0 _ rfl
          have c1 := hc 1 _ rfl
          have c2 := hc 2 _ rfl
          simp only [Nat.add_zero] at c0
          clear hc
          have HT := Lib.hid (postR_take r em p L k hlt)
          have hfl : (postR r em p (L.take k)).length ≤ k := by rw [postR_len]; simp; omega
          go_wp2_with (at_builtin; (refine wpList_append_one _ _ 30 ⟨r, em, p, ⟨L[k].kind, L[k].code, L[k].amount⟩⟩ _ 56 _ infoP Try.underlying30 hown encP_len (by omega) rfl (encP_one _) (by omega) (by omega) hbs (by rfl) (by rfl) (by rfl) (by rfl) (by simp) (by rfl) ?_); intro v2 w6 hown7 hg7)
          have hr6 := fun q hq => (hown.block_lt (g := q) hq).1
          rw [← HT.out] at hown7
          have hb7 : Below w1.heap.size w1 w6 := bel_only hbel hg7 (fun g e => hr6 g e)
          go_roundw
          case rel =>
            have hfin : ∃ k' : Nat, k' ≤ L.length ∧ Value.int .i64 ((k : Int) + 1) = .int .i64 k' ∧ Own encP 6 58 w6 w1.heap.size v2 (postR r em p (L.take k')) ∧ Below w1.heap.size w1 w6 := ⟨k + 1, by omega, by go_num, hown7, hb7⟩
            first | exact hfin | ((repeat apply Exists.intro); exact ⟨hfin, rfl⟩)
          case measure => simp [intOf]; omega
        · have ek : L.take k = L := List.take_of_length_le (by omega)
          rw [ek] at hown
          clear ek
          go_wp2
          go_ret2
          refine ⟨_, by rw [HP.out]; rfl, ?_, bel_adv hb1 hbel⟩
          rw [HR.out]
          exact hown.weaken hb1.size
  · have h0' : (cErr xs ys != 0) = true := by simpa using h0
    have HE : Hid (pErr r em p xs ys = cErr xs ys) := by rw [Hid, pErr, if_pos h0]
    have H0 := Lib.hid h0
    clear h0
    go_wp2
    go_ret2
    exact PostsPost.fail (pR_nil HE.out H0.out) HE.out hb1

end Go.Proofs.Ytnbfhnhneakajaa
