/- Contract of payslip.collect: what it makes of a map of sums. Conditions: as stated. -/
import Derived.Test.YtnbfhnhneakajaaTitle
import Derived.Test.YtnbfhnhneakajaaSortL
import Derived.Test.YtnbfhnhneakajaaMergeL
namespace Go.Proofs.Ytnbfhnhneakajaa
open Go.RowKit Go.Sort Go.Shelf Go.Maps Go.WideMaps Go.WideElems Go.ChangeMaps

theorem zeroI (w : World) : (zeroValue 3).run Try.prog w = .ok (.int .i64 0) w := by kernel_rfl
theorem keyedT : Keyed Try.prog 79 := Keyed.of_law lawT
abbrev mkT (s : Int × ByteArray) : Value := .agg #[.int .i64 s.1, .string s.2]
/-- What payslip.collect hands back. -/
def SumsL (K : Int × List UInt8 → Bool) (T : Int × List UInt8 → Int) (n : Nat) (w : World) (e : Ending) (w' : World) : Prop :=
  Below w.heap.size w w' ∧ (((∃ c, K c = true ∧ maxN (T c) = false) ∧ e = .returned (.tuple #[.slice none 0 0, .int .i64 4])) ∨
    ((∀ c, K c = true → maxN (T c) = true) ∧ ∃ A cap ys, e = .returned (.tuple #[.slice A ys.length cap, .int .i64 0]) ∧ SliceOf encL 3 w' w'.heap.size A ys ∧ ys.length ≤ n ∧ ys.length ≤ cap ∧ cap ≤ maxLen ∧
      RL.Sorted ys ∧ ∀ x : LineT, x ∈ ys ↔ (K (RL.key x) = true ∧ x.amount = T (RL.key x) ∧ x.amount ≠ 0)))

set_option maxRecDepth 100000 in
set_option maxHeartbeats 2000000 in
theorem collect_any (B n : Nat) (D : DataW Unit) (K : Int × List UInt8 → Bool) (T : Int × List UInt8 → Int) (w : World) (hown : w.ownsMap Try.prog 79 (plainElem (H := Unit) Try.prog 3) B n D) (hD : MapG litT goodT D K T) (hKG : ∀ c, K c = true → goodT c) (hn : n ≤ 1000000) :
    Calls Try.prog 53 #[.map (some B)] w (SumsL K T n w) := by
  have hBl : B < w.heap.size := hown.lt
  have hsize : Maps.size D ≤ n := by
    obtain ⟨es, clock, _, _, hn', rfl⟩ := hown
    rw [Maps.size_eq, length_insertAll]
    simpa using hn'
  have HKG := Lib.hid hKG
  clear hKG
  go_enter Try.func53, Try.ntmps53
  go_wp2_with (at_range; refine wpList_range_own _ (by rfl) _ 77 (by rfl) 79 3 keyedT Try.underlying77 (plainElem (H := Unit) Try.prog 3) B n D (by rfl) hown ?_; intro w0 hrg0 hg0 hs0)
  go_frame
  go_loopw [4, 5] (fun v _ wr => ∃ left cnt ys, wr.ranges Try.prog 79 (plainElem (H := Unit) Try.prog 3) B w.heap.size n D left cnt ∧ Own encL 3 56 wr (w.heap.size + 1) v ys ∧ ColG RL litT goodT maxN K T left ys ∧ ys.length + cnt ≤ n ∧ Below w.heap.size w wr) (fun _ _ wr => wr.rangeLeft B w.heap.size)
  case atStart => exact ⟨_, _, [], hrg0, Own.nil_ _ _, ColG.start hD, by simpa using hsize, only_below hg0 (Nat.le_refl _) (by simp)⟩
  case round =>
    obtain ⟨left, cnt, ys, hrg, hrow, hcol, hlen, hbel⟩ := hrel
    have hbs := hbel.size
    have hrs := hrg.lt
    go_wp2_with (at_next; refine wpList_next_ranges _ (by rfl) _ (by rfl) 79 keyedT (plainElem (H := Unit) Try.prog 3) mkT (Value.int .i64) (fun key kl hk => by obtain ⟨k, s, hx, _⟩ := keyT_inv hk; exact ⟨(k, s), hx⟩) (fun v y hv => by obtain ⟨c, hc, _⟩ := plainElem_int_inv Try.underlying3 hv; exact ⟨c, hc⟩) B w.heap.size n _ _ _ (by rfl) hrg ?_ ?_)
    · intro hc0 hl0
      obtain ⟨A5, c5, rfl, hS5, hB5, hlc5, hcm5⟩ := hrow.form2 encL_len
      go_wp2_with fail
      refine (sortL_any A5 c5 (w.heap.size + 1) ys _ hrow (by omega)).mono ?_
      rintro e w1 ⟨rfl, zs, hp, hsd, hSz, hb1⟩
      have hlz := hp.length_eq
      obtain ⟨f1, f2, f3⟩ := hcol.done RL_law hl0 HKG.out hp hsd
      have HF1 := Lib.hid f1
      have HF2 := Lib.hid f2
      have HF3 := Lib.hid f3
      clear f1 f2 f3
      go_wp2
      go_ret2
      exact ⟨hbel.trans (hb1.mono (by omega)), .inr ⟨HF1.out, A5, c5, zs, by rw [hlz]; rfl, hSz, by omega, by omega, hcm5, HF2.out, HF3.out⟩⟩
    · intro tk tc c kl yd yp w2 cnt2 hkey hlk hv hat hrg2 hlt hg2 hs2 hen
      obtain ⟨k', s', hx', hgd, rfl⟩ := keyT_inv hkey
      obtain ⟨hx1, hx2⟩ := agg2_inj hx'
      injection hx1 with _ hx1
      injection hx2 with hx2
      simp only at hx1 hx2
      subst hx1 hx2
      have hyd : yd = i64L c := by
        obtain ⟨c', h1, h2, _⟩ := plainElem_int_inv Try.underlying3 hv
        injection h1 with _ h1
        subst h1
        injection h2
      have hKs : K (tk, tc.data.toList) = true := by rw [← hD.has _ hgd]; exact has_true_of_atKey hat
      have hTs : T (tk, tc.data.toList) = c := by
        have h1 := hD.at_ _ hgd
        rw [hat, hyd] at h1
        injection h1 with h1
        injection h1 with _ h1
        exact h1.symm
      have hrow2 := hrow.kept hg2 (by intro g e; injection e; omega)
      have hbel2 : Below w.heap.size w w2 := hbel.grown hg2 hbs (by intro g e; injection e; omega)
      have hbs2 := hbel2.size
      have hrs2 := hrg2.lt
      have HT := Lib.hid hTs
      have HGD := Lib.hid hgd
      clear hs2 hat hkey hx' hv hyd hTs hgd
      by_cases ha : maxN c = true
      · have HST := Lib.hid (hcol.step keyGT HGD.out hlk hKs HT.out ha)
        by_cases hc0 : c = 0
        · have hn0 : (c != 0) = false := by simp [hc0]
          have hcol2 := HST.out.2 hc0
          clear hc0
          go_wp2_with (go_at_call 60; refine (isTotal_any _ _).mono ?_; rintro e w' ⟨rfl, rfl⟩)
          have hgA := World.grownBy_alloc w2 (Obj.cells #[Value.int IntKind.i64 tk, Value.string tc] 79) none
          have hrg3 := hrg2.kept hgA (by simp) (by simp)
          have hrow3 := hrow2.alloc (Obj.cells #[Value.int IntKind.i64 tk, Value.string tc] 79)
          have hbel3 := bel_alloc hbel2 (Obj.cells #[Value.int IntKind.i64 tk, Value.string tc] 79)
          go_roundw
          case rel =>
            have hf : ∃ left cnt ys, (w2.alloc (Obj.cells #[Value.int IntKind.i64 tk, Value.string tc] 79)).ranges Try.prog 79 (plainElem (H := Unit) Try.prog 3) B w.heap.size n D left cnt ∧ Own encL 3 56 (w2.alloc (Obj.cells #[Value.int IntKind.i64 tk, Value.string tc] 79)) (w.heap.size + 1) u4 ys ∧ ColG RL litT goodT maxN K T left ys ∧ ys.length + cnt ≤ n ∧ Below w.heap.size w (w2.alloc (Obj.cells #[Value.int IntKind.i64 tk, Value.string tc] 79)) := ⟨_, _, ys, hrg3, hrow3, hcol2, by omega, hbel3⟩
            first | exact hf | ((repeat apply Exists.intro); exact ⟨hf, rfl⟩)
          case measure => rw [hrg3.left_eq, hrg.left_eq]; omega
        · have hn0 : (c != 0) = true := by simp [hc0]
          have hcol2 := HST.out.1 ⟨tk, tc, c⟩ rfl rfl hc0
          clear hc0
          have hgA := World.grownBy_alloc w2 (Obj.cells #[Value.int IntKind.i64 tk, Value.string tc] 79) none
          have hrg3 := hrg2.kept hgA (by simp) (by simp)
          have hrow3 := hrow2.alloc (Obj.cells #[Value.int IntKind.i64 tk, Value.string tc] 79)
          have hbel3 := bel_alloc hbel2 (Obj.cells #[Value.int IntKind.i64 tk, Value.string tc] 79)
          have hne : some B ≠ u4.ownBlock := fun e => by have := (hrow3.block_lt e.symm).1; omega
          have hne2 : some w.heap.size ≠ u4.ownBlock := fun e => by have := (hrow3.block_lt e.symm).1; omega
          have hr4 := fun g hg => (hrow3.block_lt (g := g) hg).1
          have hs3 : w.heap.size + 1 ≤ (w2.alloc (Obj.cells #[Value.int IntKind.i64 tk, Value.string tc] 79)).heap.size := by simp; omega
          go_wp2_with (first | (go_at_call 60; refine (isTotal_any _ _).mono ?_; rintro e w' ⟨rfl, rfl⟩) | (at_builtin; (refine wpList_append_one _ _ 23 ⟨tk, tc, c⟩ _ 32 _ infoL Try.underlying23 hrow3 encL_len (by omega) rfl (encL_one _) (by omega) (by omega) hs3 (by rfl) (by rfl) (by rfl) (by rfl) (by simp) (by rfl) ?_); intro v2 w6 hown7 hg7))
          go_roundw
          case rel =>
            have hf : ∃ left cnt ys, w6.ranges Try.prog 79 (plainElem (H := Unit) Try.prog 3) B w.heap.size n D left cnt ∧ Own encL 3 56 w6 (w.heap.size + 1) v2 ys ∧ ColG RL litT goodT maxN K T left ys ∧ ys.length + cnt ≤ n ∧ Below w.heap.size w w6 := ⟨_, _, _, hrg3.kept hg7 hne hne2, hown7, hcol2, by simp; omega, bel_only hbel3 hg7 (fun g hg => by have := hr4 g hg; omega)⟩
            first | exact hf | ((repeat apply Exists.intro); exact ⟨hf, rfl⟩)
          case measure => rw [(hrg3.kept hg7 hne hne2).left_eq, hrg.left_eq]; omega
      · have ha' : maxN c = false := by simpa using ha
        clear ha
        go_wp2_with (go_at_call 60; refine (isTotal_any _ _).mono ?_; rintro e w' ⟨rfl, rfl⟩)
        go_ret2
        exact ⟨bel_alloc hbel2 _, .inl ⟨⟨_, hKs, by rw [HT.out]; exact ha'⟩, rfl⟩⟩

end Go.Proofs.Ytnbfhnhneakajaa
