/- Contracts of delta.Schedule and payrollref37.Schedule, and of ints. Conditions: as stated. -/
import Derived.Test.YtnbfhnhneakajaaDeltaN
import Derived.Test.YtnbfhnhneakajaaGenL
import Derived.Test.YtnbfhnhneakajaaMergeL
namespace Go.Proofs.Ytnbfhnhneakajaa
open Go.RowKit

def stepS (keep share : Int) (st : List Int × Int) (n : Int) : List Int × Int := (st.1 ++ [holdN st.2 n keep share], st.2 - holdN st.2 n keep share)
def schedS (keep share debt : Int) (nets : List Int) : List Int × Int := nets.foldl (stepS keep share) ([], debt)
def sOk (debt : Int) (nets : List Int) (keep share : Int) : Bool := inB debt 0 1000000000000 && inB keep 0 1000000000 && inB share 0 1000000 && nets.all (fun n => inB n 0 1000000000)
def sErr (debt : Int) (nets : List Int) (keep share : Int) : Int := if 1024 < nets.length then 3 else if sOk debt nets keep share then 0 else 2
def sR (debt : Int) (nets : List Int) (keep share : Int) : List Int := if sErr debt nets keep share = 0 then (schedS keep share debt nets).1 else []
theorem schedS_take (keep share debt : Int) (nets : List Int) (k : Nat) (h : k < nets.length) : schedS keep share debt (nets.take (k + 1)) = stepS keep share (schedS keep share debt (nets.take k)) nets[k] := by
  rw [schedS, schedS, List.take_succ_eq_append_getElem h, List.foldl_append]; rfl
theorem schedS_facts (keep share debt : Int) (nets : List Int) (hd : 0 ≤ debt) (h5 : 0 ≤ share) (h6 : share ≤ 1000000) (hn : ∀ n ∈ nets, 0 ≤ n ∧ n ≤ 1000000000) :
    ∀ k, k ≤ nets.length → (schedS keep share debt (nets.take k)).1.length = k ∧ 0 ≤ (schedS keep share debt (nets.take k)).2 ∧ (schedS keep share debt (nets.take k)).2 ≤ debt := by
  intro k
  induction k with
  | zero => intro _; simp [schedS]; exact hd
  | succ k ih =>
    intro hk
    obtain ⟨i1, i2, i3⟩ := ih (by omega)
    rw [schedS_take keep share debt nets k (by omega)]
    obtain ⟨n1, n2⟩ := hn _ (List.getElem_mem (show k < nets.length by omega))
    obtain ⟨b1, b2, b3⟩ := holdN_bd (schedS keep share debt (nets.take k)).2 nets[k] keep share i2 n1 n2 h5 h6
    simp only [stepS, List.length_append, List.length_singleton]
    omega
def IntsPost (m : List Int) (er : Int) (w : World) (e : Ending) (w' : World) : Prop :=
  ∃ v, e = .returned (.tuple #[v, .int .i64 er]) ∧ Own encI 1 3 w' w.heap.size v m ∧ Below w.heap.size w w'
theorem IntsPost.fail {m : List Int} {er n : Int} {w W : World} (hm : m = []) (he : er = n) (hb : Below w.heap.size w W) : IntsPost m er w (.returned (.tuple #[.slice none 0 0, .int .i64 n])) W := by
  subst hm he
  exact ⟨_, rfl, Own.nil_ _ _, hb⟩
theorem sR_nil {debt keep share : Int} {nets : List Int} {n : Int} (h : sErr debt nets keep share = n) (hn : n ≠ 0) : sR debt nets keep share = [] := by rw [sR, if_neg (by rw [h]; exact hn)]
theorem sErr_no {debt keep share : Int} {nets : List Int} (hl : nets.length ≤ 1024) (h : sOk debt nets keep share = false) : sErr debt nets keep share = 2 := by rw [sErr, if_neg (by omega), h]; rfl
theorem sErr_yes {debt keep share : Int} {nets : List Int} (hl : nets.length ≤ 1024) (h : sOk debt nets keep share = true) : sErr debt nets keep share = 0 := by rw [sErr, if_neg (by omega), h]; rfl

set_option maxRecDepth 100000 in
set_option maxHeartbeats 4000000 in
theorem schedule37_any (debt keep share : Int) (A : Option Addr) (cap : Nat) (xs : List Int) (w : World) (h : SliceOf encI 1 w w.heap.size A xs) (hl : xs.length ≤ 9223372036854775806) :
    Calls Try.prog 29 #[.int .i64 debt, .slice A xs.length cap, .int .i64 keep, .int .i64 share] w (IntsPost (sR debt xs keep share) (sErr debt xs keep share) w) := by
  by_cases hlen : 1024 < xs.length
  · have HP : Hid (sErr debt xs keep share = 3) := by simp only [Hid, sErr, if_pos hlen]
    go_enter Try.func29, Try.ntmps29
    go_wp2
    go_ret2
    exact IntsPost.fail (sR_nil HP.out (by omega)) HP.out (Below.refl _ _)
  · have hlen' : xs.length ≤ 1024 := by omega
    clear hlen hl
    rcases hok : (inB debt 0 1000000000000 && inB keep 0 1000000000 && inB share 0 1000000) with _ | _
    · have HP := Lib.hid (sErr_no hlen' (show sOk debt xs keep share = false by rw [sOk, hok]; rfl))
      have HOK := Lib.hid hok
      clear hok
      by_cases c0 : inB debt 0 1000000000000 = true
      rotate_left
      · go_enter Try.func29, Try.ntmps29
        go_wp2_with (go_at_call 39; refine (in37_any _ _ _).mono ?_; rintro e w' ⟨rfl, rfl⟩)
        go_ret2
        exact IntsPost.fail (sR_nil HP.out (by omega)) HP.out (Below.refl _ _)
      by_cases c1 : inB keep 0 1000000000 = true
      rotate_left
      · go_enter Try.func29, Try.ntmps29
        go_wp2_with (go_at_call 39; refine (in37_any _ _ _).mono ?_; rintro e w' ⟨rfl, rfl⟩)
        go_ret2
        exact IntsPost.fail (sR_nil HP.out (by omega)) HP.out (Below.refl _ _)
      by_cases c2 : inB share 0 1000000 = true
      rotate_left
      · go_enter Try.func29, Try.ntmps29
        go_wp2_with (go_at_call 39; refine (in37_any _ _ _).mono ?_; rintro e w' ⟨rfl, rfl⟩)
        go_ret2
        exact IntsPost.fail (sR_nil HP.out (by omega)) HP.out (Below.refl _ _)
      skip
      exfalso
      have := HOK.out
      rw [c0, c1, c2] at this
      cases this
    · have HOK := Lib.hid hok
      simp only [Bool.and_eq_true] at hok
      obtain ⟨⟨o1, o2⟩, o3⟩ := hok
      have p1 : 0 ≤ debt ∧ debt ≤ 1000000000000 := by simpa [inB] using o1
      have p2 : 0 ≤ keep ∧ keep ≤ 1000000000 := by simpa [inB] using o2
      have p3 : 0 ≤ share ∧ share ≤ 1000000 := by simpa [inB] using o3
      obtain ⟨p1a, p1b⟩ := p1
      obtain ⟨p2a, p2b⟩ := p2
      obtain ⟨p3a, p3b⟩ := p3
      go_enter Try.func29, Try.ntmps29
      go_wp2_with (go_at_call 39; refine (in37_any _ _ _).mono ?_; rintro e w' ⟨rfl, rfl⟩)
      go_loop [10] (fun i => ∃ k : Nat, k ≤ xs.length ∧ i = .int .i64 k ∧ Hid (∀ x ∈ xs.take k, inB x 0 1000000000 = true)) (fun i => xs.length - (intOf i).toNat)
      case atStart => exact ⟨0, by omega, rfl, fun x hx => by simp at hx⟩
      case round =>
        obtain ⟨k, hk, rfl, hall⟩ := hrel
        by_cases hlt : k < xs.length
        · obtain ⟨b, off, rfl, hb, hc⟩ := h.at_ hlt
          have d0 := hc 0 _ rfl
          simp only [Nat.add_zero, Nat.mul_one] at d0
          clear hc
          rcases hn : inB xs[k] 0 1000000000 with _ | _
          · have HP := Lib.hid (sErr_no hlen' (show sOk debt xs keep share = false by
              rw [sOk, HOK.out, Bool.true_and, List.all_eq_false]
              exact ⟨xs[k], List.getElem_mem _, by simp [hn]⟩))
            go_wp2_with (go_at_call 39; refine (in37_any _ _ _).mono ?_; rintro e w' ⟨rfl, rfl⟩)
            go_ret2
            exact IntsPost.fail (sR_nil HP.out (by omega)) HP.out (Below.refl _ _)
          · have HN := Lib.hid hn
            go_wp2_with (go_at_call 39; refine (in37_any _ _ _).mono ?_; rintro e w' ⟨rfl, rfl⟩)
            go_round
            case rel =>
              refine ⟨k + 1, by omega, by go_num, fun x hx => ?_⟩
              rw [List.take_succ_eq_append_getElem hlt] at hx
              rcases List.mem_append.1 hx with hx | hx
              · exact hall.out x hx
              · simp at hx; subst hx; exact HN.out
            case measure => simp [intOf]; omega
        · have ek : xs.take k = xs := List.take_of_length_le (by omega)
          rw [ek] at hall
          have HP := Lib.hid (sErr_yes hlen' (show sOk debt xs keep share = true by
            rw [sOk, HOK.out, Bool.true_and, List.all_eq_true]
            exact hall.out))
          have HR : Hid (sR debt xs keep share = (schedS keep share debt xs).1) := by rw [Hid, sR, if_pos HP.out]
          have HNB : Hid (∀ n ∈ xs, 0 ≤ n ∧ n ≤ 1000000000) := fun n hn => by have := hall.out n hn; simpa [inB] using this
          have HSF := Lib.hid (schedS_facts keep share debt xs p1a p3a p3b HNB.out)
          clear ek hall o1 o2 o3
          go_wp2
          clear hk hlt
          go_loopw [0, 11, 12] (fun d v i wr => ∃ k : Nat, k ≤ xs.length ∧ i = .int .i64 k ∧ d = .int .i64 (schedS keep share debt (xs.take k)).2 ∧ Own encI 1 3 wr w.heap.size v (schedS keep share debt (xs.take k)).1 ∧ Below w.heap.size w wr) (fun _ _ i _ => xs.length - (intOf i).toNat)
          case atStart => exact ⟨0, by omega, rfl, rfl, Own.nil_ _ _, Below.refl _ _⟩
          case round =>
            obtain ⟨k, hk, rfl, rfl, hown, hbel⟩ := hrel
            have hbs := hbel.size
            obtain ⟨f1, f2, f3⟩ := HSF.out k hk
            by_cases hlt : k < xs.length
            · obtain ⟨b, off, rfl, hb, hc⟩ := (h.below hbel).at_ hlt
              have d0 := hc 0 _ rfl
              simp only [Nat.add_zero, Nat.mul_one] at d0
              clear hc
              obtain ⟨n1, n2⟩ := HNB.out _ (List.getElem_mem hlt)
              have HT := Lib.hid (schedS_take keep share debt xs k hlt)
              have F1 := Lib.hid f1
              clear f1
              generalize schedS keep share debt (xs.take k) = st at *
              obtain ⟨st1, st2⟩ := st
              simp only at hown f2 f3
              obtain ⟨b1, b2, b3⟩ := holdN_bd st2 xs[k] keep share f2 n1 n2 p3a p3b
              have hfl : st1.length < 4294967296 := by have := F1.out; simp only at this; omega
              go_wp2_with fail
              refine (hold_any st2 xs[k] keep share _ n1 n2 p2a p2b p3a p3b).mono ?_
              rintro e w1 ⟨rfl, rfl⟩
              go_wp2_with (at_builtin; (refine wpList_append_one _ _ 22 (holdN st2 xs[k] keep share) _ 8 _ infoI Try.underlying22 hown encI_len (by omega) rfl (encI_one _) hfl (by omega) hbs (by rfl) (by rfl) (by rfl) (by rfl) (by simp) (by rfl) ?_); intro v2 w6 hown7 hg7)
              have hr6 := fun q hq => (hown.block_lt (g := q) hq).1
              have hb7 : Below w.heap.size w w6 := bel_only hbel hg7 (fun g e => hr6 g e)
              go_roundw
              case rel =>
                have hfin : ∃ k' : Nat, k' ≤ xs.length ∧ Value.int .i64 ((k : Int) + 1) = .int .i64 k' ∧ Value.int .i64 (st2 - holdN st2 xs[k] keep share) = .int .i64 (schedS keep share debt (xs.take k')).2 ∧ Own encI 1 3 w6 w.heap.size v2 (schedS keep share debt (xs.take k')).1 ∧ Below w.heap.size w w6 := ⟨k + 1, by omega, by go_num, by rw [HT.out]; rfl, by rw [HT.out]; exact hown7, hb7⟩
                first | exact hfin | ((repeat apply Exists.intro); exact ⟨hfin, rfl⟩)
              case measure => simp [intOf]; omega
            · have ek : xs.take k = xs := List.take_of_length_le (by omega)
              rw [ek] at hown
              clear ek
              go_wp2
              go_ret2
              refine ⟨_, by rw [HP.out]; rfl, ?_, hbel⟩
              rw [HR.out]
              exact hown

end Go.Proofs.Ytnbfhnhneakajaa
