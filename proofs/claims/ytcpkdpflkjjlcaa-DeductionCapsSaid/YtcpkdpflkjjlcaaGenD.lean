/- Contracts of paygen's Deductions and Record: what they draw is valid. Conditions: at most 800000 numbers have been drawn. -/
import Derived.Test.YtcpkdpflkjjlcaaDed
namespace Go.Proofs.Ytcpkdpflkjjlcaa
open Go.RowKit

theorem pick_new (b M : Nat) (W : World) (l : List Int) (cs : Array Value) (n c : Nat) (hcs : cs = (l.flatMap encI).toArray) (hn : n = l.length) (hM : M ≤ 1000000) (hd : DeckIn W b M) (hl : l ≠ []) (hn2 : l.length ≤ 1000) :
    Calls Try.prog 24 #[.pointer (some ⟨b, 0, none⟩), .slice (some ⟨W.heap.size, 0, none⟩) n c] (W.alloc (.cells cs 3)) fun e w' => ∃ r : Int, e = .returned (.int .i64 r) ∧ r ∈ l ∧ DeckIn w' b (M + 1) ∧ W.grownBy w' (some b) := by
  subst hn
  have hlt := hd.lt
  refine (pick_any b M _ (some ⟨W.heap.size, 0, none⟩) l c hM (hd.alloc _) hl hn2 ?_ ?_).mono ?_
  · exact (SliceOf.new encI_len W l cs 3 hcs).more (by simp)
  · intro a ha; injection ha with ha; subst ha; show W.heap.size ≠ b; omega
  · rintro e w2 ⟨r, rfl, hr, hd2, hg2⟩
    exact ⟨r, rfl, hr, hd2, only_trans (only_alloc (only_refl _ _) _) hg2⟩

def codesD : List ByteArray := [⟨#[99, 108, 117, 98]⟩, ⟨#[108, 111, 97, 110]⟩, ⟨#[112, 108, 97, 110]⟩, ⟨#[117, 110, 105, 111, 110]⟩]
def cellsD : Array Value := #[.string ⟨#[99, 108, 117, 98]⟩, .string ⟨#[108, 111, 97, 110]⟩, .string ⟨#[112, 108, 97, 110]⟩, .string ⟨#[117, 110, 105, 111, 110]⟩]
def codeD (k : Nat) : ByteArray := codesD.getD k ⟨#[]⟩
theorem cellsD_at (k : Nat) (h : k < 4) : cellsD[k]? = some (.string (codeD k)) := by
  match k, h with
  | 0, _ => rfl
  | 1, _ => rfl
  | 2, _ => rfl
  | 3, _ => rfl
theorem takeD (k : Nat) (h : k < 4) : codesD.take (k + 1) = codesD.take k ++ [codeD k] := by
  match k, h with
  | 0, _ => rfl
  | 1, _ => rfl
  | 2, _ => rfl
  | 3, _ => rfl
theorem codesD_name : ∀ c ∈ codesD, nameB c = true := by decide +kernel
theorem codesD_asc : codesD.Pairwise (fun a b => Op.bytesLess a.toList b.toList = true) := by decide +kernel
theorem codesD_size : ∀ c ∈ codesD, c.size ≤ 24 := by decide

/-- Drawn records with codes out of the list, in its order. -/
structure GenC {α : Type} (code : α → ByteArray) (ok : α → Prop) (k : Nat) (xs : List α) : Prop where
  sub : (xs.map code).Sublist (codesD.take k)
  ok : ∀ x ∈ xs, ok x
section
variable {α : Type} {code : α → ByteArray} {ok : α → Prop} {k : Nat} {xs : List α}
theorem GenC.nil_ : GenC code ok 0 [] := ⟨by simp, by simp⟩
theorem GenC.skip (h : GenC code ok k xs) (hk : k < 4) : GenC code ok (k + 1) xs :=
  ⟨by rw [takeD k hk]; exact h.sub.trans (List.sublist_append_left _ _), h.ok⟩
theorem GenC.more (h : GenC code ok k xs) (hk : k < 4) (x : α) (hc : code x = codeD k) (hx : ok x) : GenC code ok (k + 1) (xs ++ [x]) := by
  refine ⟨?_, fun y hy => ?_⟩
  · rw [takeD k hk, List.map_append]
    exact h.sub.append (by simp [hc])
  · rcases List.mem_append.1 hy with h1 | h1
    · exact h.ok y h1
    · simp at h1; subst h1; exact hx
theorem GenC.len (h : GenC code ok k xs) : xs.length ≤ 4 := by
  have := h.sub.length_le
  simp [codesD] at this
  omega
theorem GenC.mem (h : GenC code ok k xs) {x : α} (hx : x ∈ xs) : code x ∈ codesD := List.mem_of_mem_take (h.sub.subset (List.mem_map_of_mem hx))
theorem GenC.asc (h : GenC code ok k xs) : xs.Pairwise (fun a b => Op.bytesLess (code a).toList (code b).toList = true) := by
  have h1 := codesD_asc.sublist (h.sub.trans (List.take_sublist _ _))
  exact List.pairwise_map.1 h1
end
def DrawnD (x : DedT) : Prop := (0 ≤ x.rank ∧ x.rank ≤ 2) ∧ (0 ≤ x.amount ∧ x.amount < 600000) ∧ (0 ≤ x.rate ∧ x.rate ≤ 50000) ∧ 0 ≤ x.cap ∧ x.cap ≤ 20000
def DrawnR (x : Elem) : Prop := 0 ≤ x.amount ∧ x.amount < 600000
abbrev GenD := GenC DedT.code DrawnD
abbrev GenR := GenC Elem.code DrawnR
theorem GenD.valid {k : Nat} {xs : List DedT} (h : GenD k xs) : validD xs = true := by
  refine validD_iff.2 ⟨by have := h.len; omega, fun x hx => ?_, h.asc⟩
  obtain ⟨⟨a, b⟩, ⟨c, d⟩, ⟨e, f⟩, g, i⟩ := h.ok x hx
  exact ⟨codesD_name _ (h.mem hx), by omega, by omega, by omega, by omega, by omega, by omega, by omega, by omega⟩
theorem GenR.valid {k : Nat} {xs : List Elem} (h : GenR k xs) : recB xs = true := by
  refine recB_iff.2 ⟨by have := h.len; omega, fun x hx => ?_, h.asc⟩
  obtain ⟨a, b⟩ := h.ok x hx
  exact ⟨codesD_name _ (h.mem hx), by omega, by omega⟩
theorem GenD.size {k : Nat} {xs : List DedT} (h : GenD k xs) : ∀ x ∈ xs, x.code.size ≤ maxLen := fun x hx => Nat.le_trans (codesD_size _ (h.mem hx)) (by unfold maxLen; omega)
theorem GenR.size {k : Nat} {xs : List Elem} (h : GenR k xs) : ∀ x ∈ xs, x.code.size ≤ maxLen := fun x hx => Nat.le_trans (codesD_size _ (h.mem hx)) (by unfold maxLen; omega)

set_option maxRecDepth 100000 in
set_option maxHeartbeats 2000000 in
theorem deductions_any (b M : Nat) (w : World) (hM : M ≤ 800000) (hd : DeckIn w b M) :
    Calls Try.prog 13 #[.pointer (some ⟨b, 0, none⟩)] w fun e w' => ∃ v xs, e = .returned v ∧ GenD 4 xs ∧ Own encD 6 33 w' w.heap.size v xs ∧ DeckIn w' b (M + 32) ∧ w.grownBy w' (some b) := by
  have hlt := hd.lt
  go_enter Try.func13, Try.ntmps13
  go_wp2_with fail
  rw [show Obj.cells #[.string ⟨#[99, 108, 117, 98]⟩, .string ⟨#[108, 111, 97, 110]⟩, .string ⟨#[112, 108, 97, 110]⟩, .string ⟨#[117, 110, 105, 111, 110]⟩] 9 = Obj.cells cellsD 9 from rfl]
  go_loopw [3, 8] (fun v i wr => ∃ (k : Nat) (xs : List DedT), k ≤ 4 ∧ i = .int .i64 k ∧ GenD k xs ∧ Own encD 6 33 wr (w.heap.size + 1) v xs ∧ DeckIn wr b (M + 8 * k) ∧ Blk wr w.heap.size 9 cellsD ∧ w.grownBy wr (some b)) (fun _ i _ => 4 - (intOf i).toNat)
  case atStart => exact ⟨0, [], by omega, rfl, GenC.nil_, Own.nil_ _ _, hd.alloc _, Blk.new _ _ _, only_alloc (only_refl _ _) _⟩
  case round =>
    obtain ⟨k, xs, hk, rfl, hgen, hown, hdk, hblk, hg⟩ := hrel
    by_cases hltk : k < 4
    · have c0 := (hblk.cell k).trans (cellsD_at k hltk)
      go_wp2_with fail
      refine (next_any b (M + 8 * k) _ _ (by omega) (by omega) (by omega) hdk).mono ?_
      rintro e w1 ⟨r1, rfl, ha1, hb1, hd1, hg1⟩
      have hs0 := hblk.lt
      by_cases hr : r1 = 0
      · subst hr
        go_wp2_with fail
        refine (next_any b (M + 8 * k + 1) _ _ (by omega) (by omega) (by omega) hd1).mono ?_
        rintro e w2 ⟨r2, rfl, ha2, hb2, hd2, hg2⟩
        go_wp2_with fail
        refine (next_any b (M + 8 * k + 1 + 1) _ _ (by omega) (by omega) (by omega) hd2).mono ?_
        rintro e w3 ⟨r3, rfl, ha3, hb3, hd3, hg3⟩
        go_wp2_with fail
        refine (small_any b (M + 8 * k + 1 + 1 + 1) _ (by omega) hd3).mono ?_
        rintro e w4 ⟨r4, rfl, ha4, hb4, hd4, hg4⟩
        go_wp2_with fail
        refine (pick_new b (M + 8 * k + 1 + 1 + 1 + 2) w4 [0, 100, 5000, r4] _ _ _ rfl rfl (by omega) hd4 (by simp) (by simp)).mono ?_
        rintro e w5 ⟨r5, rfl, hm5, hd5, hg5⟩
        go_wp2_with fail
        refine (pick_new b (M + 8 * k + 1 + 1 + 1 + 2 + 1) w5 [0, 0, 10000, 50000] _ _ _ rfl rfl (by omega) hd5 (by simp) (by simp)).mono ?_
        rintro e w6 ⟨r6, rfl, hm6, hd6, hg6⟩
        go_wp2_with fail
        refine (pick_new b (M + 8 * k + 1 + 1 + 1 + 2 + 1 + 1) w6 [0, 0, 20000, 100] _ _ _ rfl rfl (by omega) hd6 (by simp) (by simp)).mono ?_
        rintro e w7 ⟨r7, rfl, hm7, hd7, hg7⟩
        have hG := only_trans (only_trans (only_trans (only_trans (only_trans (only_trans hg1 hg2) hg3) hg4) hg5) hg6) hg7
        have hown7 := hown.kept hG (by intro g e; injection e; omega)
        have hblk7 := hblk.grown hG (by intro e; injection e; omega)
        have hgg := only_trans hg hG
        have hs7 := hG.size
        have hlen := hgen.len
        have hdr5 : 0 ≤ r5 ∧ r5 < 600000 := by simp at hm5; omega
        have hdr6 : 0 ≤ r6 ∧ r6 ≤ 50000 := by simp at hm6; omega
        have hdr7 : 0 ≤ r7 ∧ r7 ≤ 20000 := by simp at hm7; omega
        clear hown hblk hg hg1 hg2 hg3 hg4 hg5 hg6 hg7 hdk hd1 hd2 hd3 hd4 hd5 hd6 c0 hm5 hm6 hm7 hG
        go_wp2_with (at_builtin; (refine wpList_append_one _ _ 22 ⟨_, _, _, _, _, _⟩ _ 56 _ infoD Try.underlying22 hown7 encD_len (by omega) rfl (encD_one _) (by omega) (by omega) (by omega) (by rfl) (by rfl) (by rfl) (by rfl) (by simp) (by rfl) ?_); intro v2 w8 hown8 hg8)
        have hr8 : ∀ g, Value.ownBlock _ = some g → w.heap.size + 1 ≤ g := fun g e => (hown7.block_lt e).1
        go_roundw
        case rel =>
          refine ⟨k + 1, _, by omega, by go_num, ?_, hown8, (hd7.grown hg8 (fun g e => by have := hr8 g e; omega)).mono (by omega), hblk7.grown hg8 (fun e => by have := hr8 _ e.symm; omega), only_then hgg hg8 (fun g e => .inl (by have := hr8 g e; omega))⟩
          exact hgen.more hltk _ rfl ⟨⟨ha2, by show r2 ≤ 2; omega⟩, hdr5, hdr6, hdr7⟩
        case measure => simp [intOf]; omega
      · have hr' : (r1 == 0) = false := by simpa using hr
        have hown1 := hown.kept hg1 (by intro g e; injection e; omega)
        have hblk1 := hblk.grown hg1 (by intro e; injection e; omega)
        clear hr
        go_wp2_with fail
        go_roundw
        case rel => exact ⟨k + 1, xs, by omega, by go_num, hgen.skip hltk, hown1, hd1.mono (by omega), hblk1, only_trans hg hg1⟩
        case measure => simp [intOf]; omega
    · go_wp2
      go_ret
      obtain rfl : k = 4 := by omega
      exact ⟨_, xs, rfl, hgen, hown.weaken (by omega), hdk, hg⟩

set_option maxRecDepth 100000 in
set_option maxHeartbeats 2000000 in
theorem record_any (b M : Nat) (w : World) (hM : M ≤ 800000) (hd : DeckIn w b M) :
    Calls Try.prog 20 #[.pointer (some ⟨b, 0, none⟩)] w fun e w' => ∃ v xs, e = .returned v ∧ GenR 4 xs ∧ Own encE 2 60 w' w.heap.size v xs ∧ DeckIn w' b (M + 16) ∧ w.grownBy w' (some b) := by
  have hlt := hd.lt
  go_enter Try.func20, Try.ntmps20
  go_wp2_with fail
  rw [show Obj.cells #[.string ⟨#[99, 108, 117, 98]⟩, .string ⟨#[108, 111, 97, 110]⟩, .string ⟨#[112, 108, 97, 110]⟩, .string ⟨#[117, 110, 105, 111, 110]⟩] 9 = Obj.cells cellsD 9 from rfl]
  go_loopw [3, 8] (fun v i wr => ∃ (k : Nat) (xs : List Elem), k ≤ 4 ∧ i = .int .i64 k ∧ GenR k xs ∧ Own encE 2 60 wr (w.heap.size + 1) v xs ∧ DeckIn wr b (M + 4 * k) ∧ Blk wr w.heap.size 9 cellsD ∧ w.grownBy wr (some b)) (fun _ i _ => 4 - (intOf i).toNat)
  case atStart => exact ⟨0, [], by omega, rfl, GenC.nil_, Own.nil_ _ _, hd.alloc _, Blk.new _ _ _, only_alloc (only_refl _ _) _⟩
  case round =>
    obtain ⟨k, xs, hk, rfl, hgen, hown, hdk, hblk, hg⟩ := hrel
    by_cases hltk : k < 4
    · have c0 := (hblk.cell k).trans (cellsD_at k hltk)
      go_wp2_with fail
      refine (next_any b (M + 4 * k) _ _ (by omega) (by omega) (by omega) hdk).mono ?_
      rintro e w1 ⟨r1, rfl, ha1, hb1, hd1, hg1⟩
      have hs0 := hblk.lt
      by_cases hr : r1 = 0
      · subst hr
        go_wp2_with fail
        refine (small_any b (M + 4 * k + 1) _ (by omega) hd1).mono ?_
        rintro e w4 ⟨r4, rfl, ha4, hb4, hd4, hg4⟩
        go_wp2_with fail
        refine (pick_new b (M + 4 * k + 1 + 2) w4 [0, 50, 100, 19999, 20000, r4] _ _ _ rfl rfl (by omega) hd4 (by simp) (by simp)).mono ?_
        rintro e w7 ⟨r7, rfl, hm7, hd7, hg7⟩
        have hG := only_trans (only_trans hg1 hg4) hg7
        have hown7 := hown.kept hG (by intro g e; injection e; omega)
        have hblk7 := hblk.grown hG (by intro e; injection e; omega)
        have hgg := only_trans hg hG
        have hs7 := hG.size
        have hlen := hgen.len
        have hdr7 : 0 ≤ r7 ∧ r7 < 600000 := by simp at hm7; omega
        clear hown hblk hg hg1 hg4 hg7 hdk hd1 hd4 c0 hm7 hG
        go_wp2_with (at_builtin; (refine wpList_append_one _ _ 23 ⟨_, _⟩ _ 24 _ infoE Try.underlying23 hown7 encE_len (by omega) rfl (encE_one _) (by omega) (by omega) (by omega) (by rfl) (by rfl) (by rfl) (by rfl) (by simp) (by rfl) ?_); intro v2 w8 hown8 hg8)
        have hr8 : ∀ g, Value.ownBlock _ = some g → w.heap.size + 1 ≤ g := fun g e => (hown7.block_lt e).1
        go_roundw
        case rel =>
          refine ⟨k + 1, _, by omega, by go_num, ?_, hown8, (hd7.grown hg8 (fun g e => by have := hr8 g e; omega)).mono (by omega), hblk7.grown hg8 (fun e => by have := hr8 _ e.symm; omega), only_then hgg hg8 (fun g e => .inl (by have := hr8 g e; omega))⟩
          exact hgen.more hltk _ rfl hdr7
        case measure => simp [intOf]; omega
      · have hr' : (r1 == 0) = false := by simpa using hr
        have hown1 := hown.kept hg1 (by intro g e; injection e; omega)
        have hblk1 := hblk.grown hg1 (by intro e; injection e; omega)
        clear hr
        go_wp2_with fail
        go_roundw
        case rel => exact ⟨k + 1, xs, by omega, by go_num, hgen.skip hltk, hown1, hd1.mono (by omega), hblk1, only_trans hg hg1⟩
        case measure => simp [intOf]; omega
    · go_wp2
      go_ret
      obtain rfl : k = 4 := by omega
      exact ⟨_, xs, rfl, hgen, hown.weaken (by omega), hdk, hg⟩

end Go.Proofs.Ytcpkdpflkjjlcaa
