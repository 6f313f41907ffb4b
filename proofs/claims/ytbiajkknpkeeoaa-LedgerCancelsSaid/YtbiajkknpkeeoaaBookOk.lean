/- What paygen's Book draws is a valid book whose entries are small; its contract. Conditions: at most 500000 numbers have been drawn. -/
import Derived.Test.YtbiajkknpkeeoaaWages44
import Derived.Test.YtbiajkknpkeeoaaEnt
import Derived.Test.YtbiajkknpkeeoaaDivP
namespace Go.Proofs.Ytbiajkknpkeeoaa
open Go.RowKit

structure BookOk (r : Int) (xs : List PostT) : Prop where
  ok : ∀ x ∈ xs, (1 ≤ x.run ∧ x.run ≤ r) ∧ (1 ≤ x.employee ∧ x.employee ≤ 3) ∧ (0 ≤ x.period ∧ x.period ≤ 2) ∧ LineOk x.line
  asc : xs.Pairwise (fun a b => a.run ≤ b.run)
theorem BookOk.nil_ {r : Int} : BookOk r [] := ⟨(fun x hx => by cases hx), List.Pairwise.nil⟩
theorem BookOk.mono {r r' : Int} {xs : List PostT} (h : BookOk r xs) (hr : r ≤ r') : BookOk r' xs :=
  ⟨fun x hx => by obtain ⟨⟨a, b⟩, c⟩ := h.ok x hx; exact ⟨⟨a, by omega⟩, c⟩, h.asc⟩
theorem BookOk.snoc {r : Int} {xs : List PostT} (h : BookOk r xs) {x : PostT} (hx : (1 ≤ x.run ∧ x.run ≤ r) ∧ (1 ≤ x.employee ∧ x.employee ≤ 3) ∧ (0 ≤ x.period ∧ x.period ≤ 2) ∧ LineOk x.line) (hr : x.run = r) : BookOk r (xs ++ [x]) := by
  refine ⟨fun y hy => ?_, ?_⟩
  · rcases List.mem_append.1 hy with h1 | h1
    · exact h.ok y h1
    · simp at h1; subst h1; exact hx
  · rw [List.pairwise_append]
    refine ⟨h.asc, by simp, fun a ha b hb => ?_⟩
    simp at hb; subst hb
    have := (h.ok a ha).1.2
    omega
theorem BookOk.sub {r : Int} {xs ys : List PostT} (h : BookOk r xs) (hs : ys.Sublist xs) : BookOk r ys := ⟨fun x hx => h.ok x (hs.subset hx), h.asc.sublist hs⟩
theorem BookOk.validP {r : Int} {xs : List PostT} (h : BookOk r xs) (hr : r ≤ 256) {x : PostT} (hx : x ∈ xs) : validP x = true := by
  obtain ⟨⟨a, b⟩, ⟨c, d⟩, ⟨e, f⟩, g⟩ := h.ok x hx
  refine (validP_iff x).2 ⟨⟨a, by omega⟩, ⟨c, by omega⟩, ⟨e, by omega⟩, ?_⟩
  rw [formZ, g.form]
  simpa using g.nz
theorem BookOk.book {r : Int} {xs : List PostT} (h : BookOk r xs) (hr : r ≤ 256) (hl : xs.length ≤ 65536) : bookB xs = true :=
  (bookB_iff xs).2 ⟨hl, fun i hi => List.pairwise_iff_getElem.1 h.asc i (i + 1) (by omega) hi (by omega), fun x hx => h.validP hr hx⟩
theorem BookOk.size {r : Int} {xs : List PostT} (h : BookOk r xs) : ∀ x ∈ xs, x.line.code.size ≤ maxLen := fun x hx => Nat.le_trans (h.ok x hx).2.2.2.code (by unfold maxLen; omega)
theorem find8 : ∀ c ∈ code8, (findW wages8 c).isNone = false := by decide +kernel
theorem BookOk.miss {r : Int} {xs : List PostT} (h : BookOk r xs) {x : PostT} (hx : x ∈ xs) : entMiss wages8 x = false := by
  rw [entMiss]
  by_cases hk : x.line.kind = 1
  · have h1 := (h.ok x hx).2.2.2.mem (by rw [hk]; decide)
    rw [find8 _ h1]; simp
  · simp [hk]
theorem wages8_acc : ∀ x ∈ wages8, 4000 ≤ x.account ∧ x.account ≤ 4003 := by decide +kernel
theorem validW8 : validB wages8 = true := by decide +kernel
theorem ent_small {r : Int} {xs : List PostT} (h : BookOk r xs) (hr : r ≤ 256) {p : PostT} (hp : p ∈ xs) : ∀ x ∈ entOf wages8 p, okB x = true ∧ -600000 ≤ x.amount ∧ x.amount ≤ 600000 := by
  obtain ⟨⟨a, b⟩, _, _, g⟩ := h.ok p hp
  have g1 := g.lo
  have g2 := g.hi
  intro x hx
  rw [entOf] at hx
  split at hx
  · split at hx
    · rename_i t ht
      have hm := wages8_acc t (List.mem_of_find?_eq_some ht)
      simp at hx; subst hx
      exact ⟨(okB_iff _).2 ⟨⟨by show 0 ≤ p.run; omega, by show p.run ≤ 256; omega⟩, ⟨by show 100 ≤ t.account; omega, by show t.account ≤ 9999; omega⟩, by show -1000000000000 ≤ p.line.amount; omega, by show p.line.amount ≤ 1000000000000; omega⟩, g1, g2⟩
    · cases hx
  · have hk : ∀ (acc amt : Int), 100 ≤ acc → acc ≤ 9999 → -600000 ≤ amt → amt ≤ 600000 → okB ⟨p.run, acc, amt⟩ = true ∧ -600000 ≤ amt ∧ amt ≤ 600000 := fun acc amt h1 h2 h3 h4 =>
      ⟨(okB_iff _).2 ⟨⟨by show 0 ≤ p.run; omega, by show p.run ≤ 256; omega⟩, ⟨h1, h2⟩, by show -1000000000000 ≤ amt; omega, by show amt ≤ 1000000000000; omega⟩, h3, h4⟩
    unfold entsK at hx
    repeat' split at hx
    all_goals
      simp only [List.mem_cons, List.not_mem_nil, or_false] at hx
    case isTrue => subst hx; exact hk _ _ (by omega) (by omega) (by omega) (by omega)
    all_goals first
      | (subst hx; exact hk _ _ (by omega) (by omega) (by omega) (by omega))
      | (rcases hx with rfl | rfl <;> exact hk _ _ (by omega) (by omega) (by omega) (by omega))
theorem BookOk.small {r : Int} {xs : List PostT} (h : BookOk r xs) (hr : r ≤ 256) (hl : xs.length ≤ 100) : SmallB (entAll wages8 xs) := by
  refine ⟨Nat.le_trans (entAll_len _ _) (by omega), fun x hx => ?_⟩
  obtain ⟨p, hp, hx⟩ := List.mem_flatMap.1 hx
  exact ent_small h hr hp x hx
theorem BookOk.ent {r : Int} {xs : List PostT} (h : BookOk r xs) (hr : r ≤ 256) (hl : xs.length ≤ 100) : eErr wages8 xs = 0 ∧ eRes wages8 xs = mRB (entAll wages8 xs) := by
  have h1 : eErr wages8 xs = mErrB (entAll wages8 xs) := eErr_m validW8 (h.book hr (by omega)) (by
    rw [List.any_eq_false]
    intro x hx
    simp [h.miss hx])
  exact ⟨by rw [h1]; exact (h.small hr hl).err, eRes_m h1⟩

set_option maxRecDepth 100000 in
set_option maxHeartbeats 4000000 in
theorem bookOk_any (b M n : Nat) (w : World) (hM : M ≤ 500000) (hn : n ≤ 1000) (hd : DeckIn w b M) :
    Calls Try.prog 11 #[.pointer (some ⟨b, 0, none⟩), .int .i64 n] w fun e w' => ∃ v xs, e = .returned v ∧ xs.length ≤ 4 * n ∧ BookOk (2 * n) xs ∧ Own encP 6 28 w' w.heap.size v xs ∧ DeckIn w' b (M + 1 + 30 * n) ∧ w.grownBy w' (some b) := by
  have hlt := hd.lt
  go_enter Try.func11, Try.ntmps11
  go_wp2_with fail
  refine (next_any b M _ _ (by omega) (by omega) (by omega) hd).mono ?_
  rintro e w0 ⟨r0, rfl, ha0, hb0, hd0, hg0⟩
  obtain ⟨k0, rfl⟩ := Int.eq_ofNat_of_zero_le ha0
  go_wp2_with fail
  go_loopw [5, 6, 7] (fun v s i wr => ∃ (k : Nat) (r : Int) (xs : List PostT), k ≤ n ∧ i = .int .i64 k ∧ s = .int .i64 r ∧ 0 ≤ r ∧ r + 2 * k ≤ 2 * n ∧ xs.length + 4 * k ≤ 4 * n ∧ Hid (BookOk r xs) ∧ Own encP 6 28 wr w.heap.size v xs ∧ DeckIn wr b (M + 1 + 30 * (n - k)) ∧ w.grownBy wr (some b)) (fun _ _ i _ => (intOf i).toNat)
  case atStart => exact ⟨k0, 0, [], by omega, rfl, rfl, by omega, by omega, by simp; omega, BookOk.nil_, Own.nil_ _ _, hd0.mono (by omega), hg0⟩
  case round =>
    obtain ⟨k, r, xs, hk, rfl, rfl, hr0, hr1, hlen, hall, hown, hdk, hg⟩ := hrel
    by_cases hk0 : 0 < k
    · go_wp2_with fail
      refine (next_any b (M + 1 + 30 * (n - k)) _ _ (by omega) (by omega) (by omega) hdk).mono ?_
      rintro e w1 ⟨r1, rfl, ha1, hb1, hd1, hg1⟩
      go_wp2_with fail
      refine (next_any b (M + 1 + 30 * (n - k) + 1) _ _ (by omega) (by omega) (by omega) hd1).mono ?_
      rintro e w2 ⟨r2, rfl, ha2, hb2, hd2, hg2⟩
      obtain ⟨j0, rfl⟩ := Int.eq_ofNat_of_zero_le ha2
      have hown2 := (hown.kept hg1 (by intro g e; injection e; omega)).kept hg2 (by intro g e; injection e; omega)
      have hgg := only_trans (only_trans hg hg1) hg2
      clear hown hdk hd1 hg hg1 hg2
      go_wp2_with fail
      go_loopw [5, 8] (fun v i wr => ∃ (j : Nat) (ys : List PostT), j ≤ 4 ∧ i = .int .i64 j ∧ ys.length + j ≤ xs.length + 4 ∧ Hid (BookOk (r + (1 + r1)) ys) ∧ Own encP 6 28 wr w.heap.size v ys ∧ DeckIn wr b (M + 1 + 30 * (n - k) + 2 + 7 * (4 - j)) ∧ w.grownBy wr (some b)) (fun _ i _ => (intOf i).toNat)
      case atStart => exact ⟨j0, xs, by omega, rfl, by omega, hall.out.mono (by omega), hown2, hd2.mono (by omega), hgg⟩
      case round =>
        clear hown2 hgg hd2
        obtain ⟨j, ys, hj, rfl, hlenj, hallj, hownj, hdj, hgj⟩ := hrel
        by_cases hj0 : 0 < j
        · go_wp2_with fail
          refine (next_any b (M + 1 + 30 * (n - k) + 2 + 7 * (4 - j)) _ _ (by omega) (by omega) (by omega) hdj).mono ?_
          rintro e w3 ⟨r3, rfl, ha3, hb3, hd3, hg3⟩
          go_wp2_with fail
          refine (next_any b (M + 1 + 30 * (n - k) + 2 + 7 * (4 - j) + 1) _ _ (by omega) (by omega) (by omega) hd3).mono ?_
          rintro e w4 ⟨r4, rfl, ha4, hb4, hd4, hg4⟩
          go_wp2_with fail
          refine (line_any b (M + 1 + 30 * (n - k) + 2 + 7 * (4 - j) + 1 + 1) _ (by omega) hd4).mono ?_
          rintro e w5 ⟨x, rfl, hx, hd5, hg5⟩
          have hG := only_trans (only_trans hg3 hg4) hg5
          have hown5 := hownj.kept hG (by intro g e; injection e; omega)
          have hs5 : w.heap.size ≤ w5.heap.size := Nat.le_trans hgj.size hG.size
          have hr7 := fun q hq => (hown5.block_lt (g := q) hq).1
          have hgg := only_trans hgj hG
          have HX := Lib.hid hx
          clear hdj hownj hgj hg3 hg4 hg5 hd3 hd4 hx hG
          go_wp2_with (at_builtin; (refine wpList_append_one _ _ 23 (⟨r + (1 + r1), 1 + r3, r4, x⟩ : PostT) _ 56 _ infoP Try.underlying23 hown5 encP_len (by omega) rfl (encP_one _) (by omega) (by omega) hs5 (by rfl) (by rfl) (by rfl) (by rfl) (by simp) (by rfl) ?_); intro v2 w6 hown6 hg6)
          go_roundw
          case rel =>
            have hfin : ∃ (j' : Nat) (ys' : List PostT), j' ≤ 4 ∧ Value.int .i64 ((j : Int) - 1) = .int .i64 j' ∧ ys'.length + j' ≤ xs.length + 4 ∧ Hid (BookOk (r + (1 + r1)) ys') ∧ Own encP 6 28 w6 w.heap.size v2 ys' ∧ DeckIn w6 b (M + 1 + 30 * (n - k) + 2 + 7 * (4 - j')) ∧ w.grownBy w6 (some b) := by
              refine ⟨j - 1, ys ++ [⟨r + (1 + r1), 1 + r3, r4, x⟩], by omega, by go_num, by simp; omega, ?_, hown6, (hd5.grown hg6 (fun q e => by have := hr7 q e; omega)).mono (by omega), only_then hgg hg6 (fun q e => .inl (hr7 q e))⟩
              exact hallj.out.snoc ⟨⟨by show 1 ≤ r + (1 + r1); omega, by show r + (1 + r1) ≤ r + (1 + r1); omega⟩, ⟨by show 1 ≤ 1 + r3; omega, by show 1 + r3 ≤ 3; omega⟩, ⟨ha4, by show r4 ≤ 2; omega⟩, HX.out⟩ rfl
            first | exact hfin | ((repeat apply Exists.intro); exact ⟨hfin, rfl⟩)
          case measure => simp [intOf]; omega
        · obtain rfl : j = 0 := by omega
          go_wp2_with fail
          go_roundw
          case rel =>
            have hfin : ∃ (k' : Nat) (r' : Int) (xs' : List PostT), k' ≤ n ∧ Value.int .i64 ((k : Int) - 1) = .int .i64 k' ∧ Value.int .i64 (r + (1 + r1)) = .int .i64 r' ∧ 0 ≤ r' ∧ r' + 2 * k' ≤ 2 * n ∧ xs'.length + 4 * k' ≤ 4 * n ∧ Hid (BookOk r' xs') ∧ Own encP 6 28 wr w.heap.size u5 xs' ∧ DeckIn wr b (M + 1 + 30 * (n - k')) ∧ w.grownBy wr (some b) :=
              ⟨k - 1, r + (1 + r1), ys, by omega, by go_num, rfl, by omega, by omega, by omega, hallj, hownj, hdj.mono (by omega), hgj⟩
            first | exact hfin | ((repeat apply Exists.intro); exact ⟨hfin, rfl⟩)
          case measure => simp [intOf]; omega
    · go_wp2_with fail
      go_ret
      exact ⟨_, xs, rfl, by omega, hall.out.mono (by omega), hown, hdk.mono (by omega), hg⟩

end Go.Proofs.Ytbiajkknpkeeoaa
