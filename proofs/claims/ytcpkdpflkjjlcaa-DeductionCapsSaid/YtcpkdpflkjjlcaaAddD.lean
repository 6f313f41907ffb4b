/- Contract of deduction.Add: it hands back addR and addE. Conditions: as stated. -/
import Derived.Test.YtcpkdpflkjjlcaaTake
import Derived.Test.YtcpkdpflkjjlcaaAddP
import Derived.Test.YtcpkdpflkjjlcaaMapE
namespace Go.Proofs.Ytcpkdpflkjjlcaa
open Go.RowKit Go.Sort Go.Shelf Go.Maps

/-- What has been collected when 'left' is still to come. -/
structure ColN (K : List UInt8 → Bool) (T : List UInt8 → Int) (left : Lit → Bool) (ys : List Elem) : Prop where
  sound : ∀ x ∈ ys, K x.code.data.toList = true ∧ x.amount = T x.code.data.toList ∧ x.amount ≠ 0 ∧ left (key x.code) = false
  full : ∀ c, K c = true → left (.string c) = false → T c ≠ 0 → ∃ x ∈ ys, x.code.data.toList = c
  nodup : ys.Pairwise (fun a b => a.code ≠ b.code)
theorem ColN.start {D : DataW Unit} {K : List UInt8 → Bool} {T : List UInt8 → Int} (h : MapD D K T) : ColN K T (Maps.has D) [] :=
  ⟨by simp, (fun c hc hl => by rw [h.has c, hc] at hl; cases hl), List.Pairwise.nil⟩
theorem ColN.step {K : List UInt8 → Bool} {T : List UInt8 → Int} {left : Lit → Bool} {ys : List Elem} (h : ColN K T left ys) {s : ByteArray} {c : Int} (hl : left (key s) = true) (hK : K s.data.toList = true) (hT : T s.data.toList = c) :
    (c ≠ 0 → ColN K T (fun z => left z && !z.sameKey (key s)) (ys ++ [⟨s, c⟩])) ∧ (c = 0 → ColN K T (fun z => left z && !z.sameKey (key s)) ys) := by
  have hself : (key s).sameKey (key s) = true := WideAt.sameKey_self trivial
  have hsound : ∀ x ∈ ys, K x.code.data.toList = true ∧ x.amount = T x.code.data.toList ∧ x.amount ≠ 0 ∧ (left (key x.code) && !(key x.code).sameKey (key s)) = false := by
    intro x hx
    obtain ⟨h1, h2, h3, h4⟩ := h.sound x hx
    exact ⟨h1, h2, h3, by simp [h4]⟩
  have hfull : ∀ d, K d = true → (left (.string d) && !(Lit.string d).sameKey (key s)) = false → T d ≠ 0 → d ≠ s.data.toList → ∃ x ∈ ys, x.code.data.toList = d := by
    intro d hd hld h0 e
    have hne : (Lit.string d).sameKey (key s) = false := sameKey_ne (fun e' => e (by simpa [key] using e'))
    rw [hne] at hld
    simp at hld
    exact h.full d hd hld h0
  refine ⟨fun hc => ⟨fun x hx => ?_, fun d hd hld h0 => ?_, ?_⟩, fun hc => ⟨hsound, fun d hd hld h0 => ?_, h.nodup⟩⟩
  · rcases List.mem_append.1 hx with h1 | h1
    · exact hsound x h1
    · simp at h1
      subst h1
      exact ⟨hK, hT.symm, hc, by show (left (key s) && !(key s).sameKey (key s)) = false; rw [hself]; simp⟩
  · by_cases e : d = s.data.toList
    · exact ⟨⟨s, c⟩, by simp, e.symm⟩
    · obtain ⟨x, hx, hxe⟩ := hfull d hd hld h0 e
      exact ⟨x, by simp [hx], hxe⟩
  · rw [List.pairwise_append]
    refine ⟨h.nodup, List.pairwise_singleton _ _, fun a ha' b hb => ?_⟩
    simp at hb
    subst hb
    intro e
    have := (h.sound a ha').2.2.2
    rw [show key a.code = key s by rw [e], hl] at this
    cases this
  · by_cases e : d = s.data.toList
    · subst e; rw [hT] at h0; exact absurd hc h0
    · exact hfull d hd hld h0 e
theorem ColN.mem {K : List UInt8 → Bool} {T : List UInt8 → Int} {left : Lit → Bool} {ys : List Elem} (h : ColN K T left ys) (hl : ∀ z, left z = false) (x : Elem) : x ∈ ys ↔ (K x.code.data.toList = true ∧ x.amount = T x.code.data.toList ∧ x.amount ≠ 0) := by
  refine ⟨fun hx => ⟨(h.sound x hx).1, (h.sound x hx).2.1, (h.sound x hx).2.2.1⟩, fun ⟨h1, h2, h3⟩ => ?_⟩
  obtain ⟨y, hy, hye⟩ := h.full _ h1 (hl _) (by rw [← h2]; exact h3)
  have hyx : y = x := by
    obtain ⟨_, g2, _⟩ := h.sound y hy
    have hc : y.code = x.code := key_inj (by simp [key, hye])
    obtain ⟨a, b⟩ := y
    obtain ⟨c, d⟩ := x
    simp only at hc g2 h2
    subst hc
    rw [g2, h2]
  rw [← hyx]; exact hy

set_option maxRecDepth 100000 in
set_option maxHeartbeats 4000000 in
theorem add_any (A B : Option Addr) (cap bcap : Nat) (xs ys : List Elem) (w : World) (h : SliceOf encE 2 w w.heap.size A xs) (hz : ∀ x ∈ xs, x.code.size ≤ maxLen) (hl : xs.length ≤ 9223372036854775806)
    (hy : SliceOf encE 2 w w.heap.size B ys) (hyz : ∀ x ∈ ys, x.code.size ≤ maxLen) (hyl : ys.length ≤ 9223372036854775806) :
    Calls Try.prog 32 #[.slice A xs.length cap, .slice B ys.length bcap] w (EPost (addR xs ys) (addE xs ys) w) := by
  have HZ := Lib.hid hz; clear hz
  have HYZ := Lib.hid hyz; clear hyz
  have fail_ : ∀ (n : Int) (W : World), n ≠ 0 → addE xs ys = n → Below w.heap.size w W → EPost (addR xs ys) (addE xs ys) w (Ending.returned (.tuple #[.slice none 0 0, .int .i64 n])) W :=
    fun n W hn he hb => EPost.fail (addR_no (by rw [he]; exact hn)) he hb
  have FAIL := Lib.hid fail_
  clear fail_
  have hmm := @run_makeMap Try.prog
  go_enter Try.func32, Try.ntmps32
  go_wp2_with fail
  refine (rec_any A cap xs _ h HZ.out (by omega)).mono ?_
  rintro e w1 ⟨rfl, hb1⟩
  by_cases hr : recB xs = true
  rotate_left
  · have hr' : recB xs = false := by simpa using hr
    clear hr
    go_wp2
    go_ret2
    exact FAIL.out 1 _ (by omega) (addE_1 (.inl hr')) hb1
  have hxl : xs.length ≤ 128 := (recB_iff.1 hr).1
  have HXB := Lib.hid (recB_iff.1 hr).2.1
  have HXS := Lib.hid (recB_iff.1 hr).2.2
  go_wp2_with fail
  go_loopw [22] (fun i wr => ∃ k : Nat, k ≤ ys.length ∧ i = .int .i64 k ∧ Hid (∀ j, (hj : j < ys.length) → j < k → addB ys[j] = true) ∧ Below w.heap.size w wr) (fun i _ => ys.length - (intOf i).toNat)
  case atStart => exact ⟨0, by omega, rfl, fun j _ hj => absurd hj (by omega), hb1⟩
  case round =>
    obtain ⟨k, hk, rfl, hall, hbel⟩ := hrel
    have hbs := hbel.size
    by_cases hlt : k < ys.length
    · obtain ⟨b, off, rfl, hb, hc⟩ := (hy.below hbel).at_ hlt
      have c0 := hc 0 _ rfl
      have c1 := hc 1 _ rfl
      simp only [Nat.add_zero] at c0
      clear hc
      have hzk := HYZ.out _ (List.getElem_mem hlt)
      have HN : Hid (addB ys[k] = false → addE xs ys = 1) := fun hf => addE_1 (.inr (by
        rw [List.all_eq_false]
        exact ⟨ys[k], List.getElem_mem _, by simp [hf]⟩))
      by_cases hn : nameB ys[k].code = true
      rotate_left
      · have hn' : nameB ys[k].code = false := by simpa using hn
        clear hn
        go_wp2_with (go_at_call 35; refine (isName_any _ _ hzk).mono ?_; rintro e w' ⟨rfl, rfl⟩)
        go_ret2
        exact FAIL.out 1 _ (by omega) (HN.out (by simp [addB, hn'])) (hbel.alloc hbs _)
      by_cases h1 : 0 ≤ ys[k].amount
      rotate_left
      · go_wp2_with (go_at_call 35; refine (isName_any _ _ hzk).mono ?_; rintro e w' ⟨rfl, rfl⟩)
        go_ret2
        exact FAIL.out 1 _ (by omega) (HN.out (by simp [addB, inB]; intros; omega)) (hbel.alloc hbs _)
      by_cases h2 : ys[k].amount ≤ 1000000000
      rotate_left
      · go_wp2_with (go_at_call 35; refine (isName_any _ _ hzk).mono ?_; rintro e w' ⟨rfl, rfl⟩)
        go_ret2
        exact FAIL.out 1 _ (by omega) (HN.out (by simp [addB, inB]; intros; omega)) (hbel.alloc hbs _)
      go_wp2_with (go_at_call 35; refine (isName_any _ _ hzk).mono ?_; rintro e w' ⟨rfl, rfl⟩)
      go_roundw
      case rel =>
        refine ⟨k + 1, by omega, by go_num, fun j hj hjk => ?_, hbel.alloc hbs _⟩
        rcases Nat.lt_or_ge j k with h3 | h3
        · exact hall.out j hj h3
        · obtain rfl : j = k := by omega
          exact (addB_iff _).2 ⟨hn, h1, h2⟩
      case measure => simp [intOf]; omega
    · have hya : ys.all addB = true := by
        rw [List.all_eq_true]
        intro x hx
        obtain ⟨j, hj, rfl⟩ := List.mem_iff_getElem.1 hx
        exact hall.out j hj (by omega)
      have HYA := Lib.hid hya
      have HYB : Hid (∀ x ∈ ys, 0 ≤ x.amount ∧ x.amount ≤ 1000000000) := fun x hx => ((addB_iff x).1 (List.all_eq_true.1 hya x hx)).2
      clear hya
      by_cases hyl2 : 128 < ys.length
      · go_wp2
        go_ret2
        exact FAIL.out 3 _ (by omega) (addE_3 hr HYA.out (.inl hyl2)) hbel
      have hyl3 : ys.length ≤ 128 := by omega
      obtain ⟨wp, rfl⟩ : ∃ wp : World, wp = wr := ⟨_, rfl⟩
      go_wp2_with fail
      clear hall hk hlt hyl hl hb1
      have hmap0 : (wp.alloc (.map #[] 0)).ownsMap Try.prog 9 (plainElem (H := Unit) Try.prog 3) wp.heap.size 0 (.map []) := World.ownsMap_made _ _ _ _
      have hbel0 : Below w.heap.size w (wp.alloc (.map #[] 0)) := hbel.alloc hbs _
      go_loopw [47] (fun i wr => ∃ (k : Nat) (D : DataW Unit), k ≤ xs.length ∧ i = .int .i64 k ∧ wr.ownsMap Try.prog 9 (plainElem (H := Unit) Try.prog 3) wp.heap.size k D ∧ MapD D (keyE (xs.take k)) (totE (xs.take k)) ∧ Below w.heap.size w wr) (fun i _ => xs.length - (intOf i).toNat)
      case atStart => exact ⟨0, .map [], by omega, rfl, hmap0, MapD.empty, hbel0⟩
      case round =>
        clear hmap0 hbel0
        obtain ⟨k, D, hk, rfl, hown, hD, hbel3⟩ := hrel
        have hbs3 := hbel3.size
        by_cases hlt : k < xs.length
        · obtain ⟨b, off, rfl, hb, hc⟩ := (h.below hbel3).at_ hlt
          have c0 := hc 0 _ rfl
          have c1 := hc 1 _ rfl
          simp only [Nat.add_zero] at c0
          clear hc
          have hzk := HZ.out _ (List.getElem_mem hlt)
          have hkey : keyOf Try.prog 9 (.string xs[k].code) = some (key xs[k].code) := WideMaps.keyOf_string_mk Try.underlying9 hzk
          have hown1 := hown.kept (World.grownBy_alloc wr (Obj.cells #[Value.string xs[k].code, Value.int IntKind.i64 xs[k].amount] 60) none) (by simp)
          have hTb := totE_bd2 (xs.take k) xs[k].code.data.toList 1000000000000 (by omega) (fun x hx => (HXB.out x (List.mem_of_mem_take hx)).2)
          have hTl : (xs.take k).length ≤ 128 := by simp; omega
          obtain ⟨_, hxk1, hxk2⟩ := HXB.out _ (List.getElem_mem hlt)
          have hat0 := hD.at_ xs[k].code.data.toList
          have hT1 : 0 ≤ totE (xs.take k) xs[k].code.data.toList := hTb.1
          have hT2 : totE (xs.take k) xs[k].code.data.toList ≤ 128000000000000 := by omega
          have hD1 := hD.put_ (K' := keyE (xs.take (k + 1))) (T' := totE (xs.take (k + 1))) xs[k].code (totE (xs.take k) xs[k].code.data.toList + xs[k].amount) (keyE_take xs k hlt) (fun c => by
            rw [totE_take xs k hlt]
            split
            · rename_i e; rw [← e]
            · omega)
          have HD1 := Lib.hid hD1
          have HAT := Lib.hid hat0
          generalize totE (xs.take k) xs[k].code.data.toList = t0 at hT1 hT2 HD1 HAT
          clear hTb hTl hat0 hD hD1
          go_wp2_with (first
            | (at_lookup; refine wpList_lookup_own_int _ (by rfl) _ _ 73 (by rfl) 9 3 .i64 lawS Try.underlying73 Try.underlying3 (zeroI _) wp.heap.size k D (by rfl) hown1 _ _ (by rfl) hkey ?_; intro c hat hwc; obtain rfl : c = t0 := (by have h1 := HAT.out; rw [show Lit.string xs[k].code.data.toList = key xs[k].code from rfl, hat] at h1; injection h1 with h1; injection h1))
            | (at_mapUpdate; refine wpList_mapUpdate_own _ (by rfl) _ _ _ 73 (by rfl) 9 3 lawS Try.underlying73 _ wp.heap.size k D (by rfl) hown1 (by unfold maxLen; omega) _ _ _ (by rfl) (by rfl) hkey _ [] (plainElem_int Try.underlying3 (wf64 (by omega) (by omega))) ?_; intro w1 hown2 hgrow1))
          go_roundw
          case rel => exact ⟨k + 1, _, by omega, by go_num, hown2, HD1.out, (hbel3.alloc hbs3 _).grown hgrow1 (by simp; omega) (fun g e => by injection e; omega)⟩
          case measure => simp [intOf]; omega
        · obtain rfl : k = xs.length := by omega
          have hg0 : decide ((xs.length : Int) < (xs.length : Int)) = false := by simp
          have hg1 : decide (xs.length < xs.length) = false := by simp
          rw [List.take_length] at hD
          obtain ⟨wq, rfl⟩ : ∃ wq : World, wq = wr := ⟨_, rfl⟩
          go_wp2_with fail
          clear hk hlt
          go_loopw [61] (fun i wr => ∃ (k : Nat) (D : DataW Unit), k ≤ ys.length ∧ i = .int .i64 k ∧ wr.ownsMap Try.prog 9 (plainElem (H := Unit) Try.prog 3) wp.heap.size (xs.length + k) D ∧ MapD D (keyE (xs ++ ys.take k)) (totE (xs ++ ys.take k)) ∧ Below w.heap.size w wr) (fun i _ => ys.length - (intOf i).toNat)
          case atStart => exact ⟨0, D, by omega, rfl, hown, by simpa using hD, hbel3⟩
          case round =>
            clear hown hD hbel3 hbs3
            obtain ⟨k, D, hk, rfl, hown, hD, hbel3⟩ := hrel
            have hbs3 := hbel3.size
            by_cases hlt : k < ys.length
            · obtain ⟨b, off, rfl, hb, hc⟩ := (hy.below hbel3).at_ hlt
              have c0 := hc 0 _ rfl
              have c1 := hc 1 _ rfl
              simp only [Nat.add_zero] at c0
              clear hc
              have hzk := HYZ.out _ (List.getElem_mem hlt)
              have hkey : keyOf Try.prog 9 (.string ys[k].code) = some (key ys[k].code) := WideMaps.keyOf_string_mk Try.underlying9 hzk
              have hown1 := hown.kept (World.grownBy_alloc wr (Obj.cells #[Value.string ys[k].code, Value.int IntKind.i64 ys[k].amount] 60) none) (by simp)
              have hTb := totE_bd2 (xs ++ ys.take k) ys[k].code.data.toList 1000000000000 (by omega) (fun x hx => by
                rcases List.mem_append.1 hx with hx | hx
                · exact (HXB.out x hx).2
                · have := HYB.out x (List.mem_of_mem_take hx); omega)
              have hTl : (xs ++ ys.take k).length ≤ 256 := by simp; omega
              obtain ⟨hxk1, hxk2⟩ := HYB.out _ (List.getElem_mem hlt)
              have hat0 := hD.at_ ys[k].code.data.toList
              have hT1 : 0 ≤ totE (xs ++ ys.take k) ys[k].code.data.toList := hTb.1
              have hT2 : totE (xs ++ ys.take k) ys[k].code.data.toList ≤ 256000000000000 := by omega
              have hD1 := hD.put_ (K' := keyE (xs ++ ys.take (k + 1))) (T' := totE (xs ++ ys.take (k + 1))) ys[k].code (totE (xs ++ ys.take k) ys[k].code.data.toList + ys[k].amount) (fun c => by rw [keyE_append, keyE_append, keyE_take ys k hlt, Bool.or_assoc]) (fun c => by
                rw [totE_append, totE_append, totE_append, totE_take ys k hlt]
                split
                · rename_i e; rw [← e]; omega
                · omega)
              have HD1 := Lib.hid hD1
              have HAT := Lib.hid hat0
              generalize totE (xs ++ ys.take k) ys[k].code.data.toList = t0 at hT1 hT2 HD1 HAT
              clear hTb hTl hat0 hD hD1
              go_wp2_with (first
                | (at_lookup; refine wpList_lookup_own_int _ (by rfl) _ _ 73 (by rfl) 9 3 .i64 lawS Try.underlying73 Try.underlying3 (zeroI _) wp.heap.size (xs.length + k) D (by rfl) hown1 _ _ (by rfl) hkey ?_; intro c hat hwc; obtain rfl : c = t0 := (by have h1 := HAT.out; rw [show Lit.string ys[k].code.data.toList = key ys[k].code from rfl, hat] at h1; injection h1 with h1; injection h1))
                | (at_mapUpdate; refine wpList_mapUpdate_own _ (by rfl) _ _ _ 73 (by rfl) 9 3 lawS Try.underlying73 _ wp.heap.size (xs.length + k) D (by rfl) hown1 (by unfold maxLen; omega) _ _ _ (by rfl) (by rfl) hkey _ [] (plainElem_int Try.underlying3 (wf64 (by omega) (by omega))) ?_; intro w1 hown2 hgrow1))
              go_roundw
              case rel => exact ⟨k + 1, _, by omega, by go_num, hown2, HD1.out, (hbel3.alloc hbs3 _).grown hgrow1 (by simp; omega) (fun g e => by injection e; omega)⟩
              case measure => simp [intOf]; omega
            · obtain rfl : k = ys.length := by omega
              have hg0 : decide ((ys.length : Int) < (ys.length : Int)) = false := by simp
              have hg1 : decide (ys.length < ys.length) = false := by simp
              rw [List.take_length] at hD
              obtain ⟨wq, rfl⟩ : ∃ wq : World, wq = wr := ⟨_, rfl⟩
              clear hk hlt
              have hBl : wp.heap.size < wq.heap.size := by
                obtain ⟨es, clock, hb, _⟩ := hown
                exact (Array.getElem?_eq_some_iff.1 hb).1
              have hsize : Maps.size D ≤ xs.length + ys.length := by
                obtain ⟨es, clock, _, _, hn', rfl⟩ := hown
                rw [Maps.size_eq, length_insertAll]
                simpa using hn'
              go_wp2_with (at_range; refine wpList_range_own _ (by rfl) _ 73 (by rfl) 9 3 lawS Try.underlying73 (plainElem (H := Unit) Try.prog 3) wp.heap.size (xs.length + ys.length) D (by rfl) hown ?_; intro w0 hrg0 hg0 hs0)
              go_frame
              go_loopw [13, 14] (fun v o wr => ∃ left cnt zs, wr.ranges Try.prog 9 (plainElem (H := Unit) Try.prog 3) wp.heap.size wq.heap.size (xs.length + ys.length) D left cnt ∧ Own encE 2 60 wr (wq.heap.size + 1) v zs ∧ o = .bool (anyBig zs) ∧ ColN (keyE (xs ++ ys)) (totE (xs ++ ys)) left zs ∧ zs.length + cnt ≤ xs.length + ys.length ∧ Below wq.heap.size wq wr) (fun _ _ wr => wr.rangeLeft wp.heap.size wq.heap.size)
              case atStart => exact ⟨_, _, [], hrg0, Own.nil_ _ _, rfl, ColN.start hD, by simpa using hsize, only_below hg0 (Nat.le_refl _) (by simp)⟩
              case round =>
                have hDD := Lib.hid hD
                clear hown hD hsize hbs3 hrg0 hg0 hs0
                obtain ⟨left, cnt, zs, hrg, hrow, rfl, hcol, hlen, hbelq⟩ := hrel
                have hbs := hbelq.size
                have hrs := hrg.lt
                go_wp2_with (at_next; refine wpList_next_ranges _ (by rfl) _ (by rfl) 9 lawS (plainElem (H := Unit) Try.prog 3) Value.string (Value.int .i64) (fun key kl hk => by obtain ⟨x, hx, _⟩ := Maps.keyOf_str Try.underlying9 hk; exact ⟨_, hx⟩) (fun v y hv => by obtain ⟨c, hc, _⟩ := plainElem_int_inv Try.underlying3 hv; exact ⟨c, hc⟩) wp.heap.size wq.heap.size (xs.length + ys.length) _ _ _ (by rfl) hrg ?_ ?_)
                · intro hc0 hl0
                  have hmem := hcol.mem hl0
                  have hperm : zs.Perm (addO xs ys) := perm_of_codes hcol.nodup (sorted_codes (addO_sorted ys HXS.out)) (fun x => by rw [hmem, mem_addO HXS.out])
                  have hany : anyBig (addO xs ys) = anyBig zs := by
                    rw [Bool.eq_iff_iff, anyBig, anyBig, List.any_eq_true, List.any_eq_true]
                    exact ⟨fun ⟨x, h1, h2⟩ => ⟨x, hperm.mem_iff.2 h1, h2⟩, fun ⟨x, h1, h2⟩ => ⟨x, hperm.mem_iff.1 h1, h2⟩⟩
                  have hlenp := hperm.length_eq
                  have HNC := Lib.hid hcol.nodup
                  have HP := Lib.hid hperm
                  have HANY := Lib.hid hany
                  have HLP := Lib.hid hlenp
                  have hbelw := bel_adv hbel3 hbelq
                  clear hmem hperm hany hlenp hcol hc0 hl0
                  by_cases hbig : 128 < zs.length
                  · have HER := Lib.hid (addE_3 (b := ys) hr HYA.out (.inr (by have := HLP.out; omega)))
                    obtain ⟨A5, c5, rfl, hS5, hB5, hlc5, hcm5⟩ := hrow.form2 encE_len
                    go_wp2
                    go_ret2
                    exact FAIL.out 3 _ (by omega) HER.out hbelw
                  · have hbig' : zs.length ≤ 128 := by omega
                    have HER := Lib.hid (addE_4 (a := xs) (b := ys) hr HYA.out (by omega) (by have := HLP.out; omega))
                    clear hbig
                    rcases hov : anyBig zs with _ | _
                    rotate_left
                    · have HOV := Lib.hid hov
                      clear hov
                      obtain ⟨A5, c5, rfl, hS5, hB5, hlc5, hcm5⟩ := hrow.form2 encE_len
                      go_wp2
                      go_ret2
                      exact FAIL.out 4 _ (by omega) (by rw [HER.out, HANY.out, HOV.out]; rfl) hbelw
                    · have HE0 : Hid (addE xs ys = 0) := by rw [Hid, HER.out, HANY.out, hov]; rfl
                      clear hov
                      obtain ⟨A5, c5, rfl, hS5, hB5, hlc5, hcm5⟩ := hrow.form2 encE_len
                      go_wp2_with fail
                      refine (sortE_any A5 c5 (wq.heap.size + 1) zs _ hrow (by omega)).mono ?_
                      rintro e w6 ⟨rfl, us, hp, hsd, hSz, hb6⟩
                      have hlz := hp.length_eq
                      have hus : us = addO xs ys := sorted_ext (strict_of hsd (HNC.out.perm hp.symm (fun h e => h e.symm))) (addO_sorted ys HXS.out) (fun x => by rw [hp.mem_iff, HP.out.mem_iff])
                      have HUS := Lib.hid hus
                      have HLZ := Lib.hid hlz
                      clear hlz hus hp hsd
                      go_wp2
                      go_ret2
                      rw [HE0.out, addR_ok HE0.out, ← HUS.out]
                      exact ⟨A5, c5, by rw [HLZ.out]; rfl, hSz, by have := HLZ.out; omega, hcm5, bel_adv hbel3 (hbelq.trans (hb6.mono (by omega)))⟩
                · intro s c kl yd yp w2 cnt2 hkey hlk hv hat hrg2 hlt hg2 hs2 hen
                  obtain ⟨x', hx', rfl, hxl'⟩ := Maps.keyOf_str Try.underlying9 hkey
                  have hsx : x' = s.data.toList := by
                    have h1 : s = ⟨x'.toArray⟩ := by simpa [encStr] using hx'
                    rw [h1]
                  subst hsx
                  have hyd : yd = i64L c := by
                    obtain ⟨c', h1, h2, _⟩ := plainElem_int_inv Try.underlying3 hv
                    injection h1 with _ h1
                    subst h1
                    injection h2
                  have hKs : keyE (xs ++ ys) s.data.toList = true := by rw [← hDD.out.has]; exact has_true_of_atKey hat
                  have hTs : totE (xs ++ ys) s.data.toList = c := by
                    have h1 := hDD.out.at_ s.data.toList
                    rw [hat, hyd] at h1
                    injection h1 with h1
                    injection h1 with _ h1
                    exact h1.symm
                  have hlk' : left (key s) = true := hlk
                  have hrow2 := hrow.kept hg2 (by intro g e; injection e; omega)
                  have hbel2 : Below wq.heap.size wq w2 := bel_only hbelq hg2 (by intro g e; injection e; omega)
                  have hbs2 := hbel2.size
                  have hrs2 := hrg2.lt
                  have HST := Lib.hid (hcol.step hlk' hKs hTs)
                  clear hs2 hat hkey hx' hv hyd hTs hcol
                  by_cases hc0 : c = 0
                  · have hn0 : (c == 0) = true := by simp [hc0]
                    have hcol2 := HST.out.2 hc0
                    clear hc0
                    go_wp2_with fail
                    go_roundw
                    case rel =>
                      have hf : ∃ left cnt zs', w2.ranges Try.prog 9 (plainElem (H := Unit) Try.prog 3) wp.heap.size wq.heap.size (xs.length + ys.length) D left cnt ∧ Own encE 2 60 w2 (wq.heap.size + 1) u13 zs' ∧ Value.bool (anyBig zs) = .bool (anyBig zs') ∧ ColN (keyE (xs ++ ys)) (totE (xs ++ ys)) left zs' ∧ zs'.length + cnt ≤ xs.length + ys.length ∧ Below wq.heap.size wq w2 := ⟨_, _, zs, hrg2, hrow2, rfl, hcol2, by omega, hbel2⟩
                      first | exact hf | ((repeat apply Exists.intro); exact ⟨hf, rfl⟩)
                    case measure => rw [hrg2.left_eq, hrg.left_eq]; omega
                  · have hn0 : (c == 0) = false := by simp [hc0]
                    have hcol2 := HST.out.1 hc0
                    have hne : some wp.heap.size ≠ u13.ownBlock := fun e => by have := (hrow2.block_lt e.symm).1; omega
                    have hne2 : some wq.heap.size ≠ u13.ownBlock := fun e => by have := (hrow2.block_lt e.symm).1; omega
                    have hr4 := fun g hg => (hrow2.block_lt (g := g) hg).1
                    have HAB := Lib.hid (anyBig_snoc zs ⟨s, c⟩)
                    clear hc0
                    by_cases hbg : 1000000000000 < c
                    · have hd1 : decide (1000000000000 < c) = true := by simp [hbg]
                      have HB : Hid (anyBig (zs ++ [⟨s, c⟩]) = true) := by rw [Hid, HAB.out]; simp [big, hbg]
                      rcases hbz : anyBig zs with _ | _
                      all_goals
                        go_wp2_with (at_builtin; (refine wpList_append_one _ _ 23 ⟨s, c⟩ _ 24 _ infoE Try.underlying23 hrow2 encE_len (by omega) rfl (encE_one _) (by omega) (by omega) (by omega) (by rfl) (by rfl) (by rfl) (by rfl) (by simp) (by rfl) ?_); intro v2 w6 hown7 hg7)
                        go_roundw
                        case rel =>
                          have hf : ∃ left cnt zs', w6.ranges Try.prog 9 (plainElem (H := Unit) Try.prog 3) wp.heap.size wq.heap.size (xs.length + ys.length) D left cnt ∧ Own encE 2 60 w6 (wq.heap.size + 1) v2 zs' ∧ Value.bool true = .bool (anyBig zs') ∧ ColN (keyE (xs ++ ys)) (totE (xs ++ ys)) left zs' ∧ zs'.length + cnt ≤ xs.length + ys.length ∧ Below wq.heap.size wq w6 := ⟨_, _, _, hrg2.kept hg7 hne hne2, hown7, by rw [HB.out], hcol2, by simp; omega, bel_only hbel2 hg7 (fun g hg => by have := hr4 g hg; omega)⟩
                          first | exact hf | ((repeat apply Exists.intro); exact ⟨hf, rfl⟩)
                        case measure => rw [(hrg2.kept hg7 hne hne2).left_eq, hrg.left_eq]; omega
                    · have HB : Hid (anyBig (zs ++ [⟨s, c⟩]) = anyBig zs) := by rw [Hid, HAB.out]; simp [big, hbg]
                      rcases hbz : anyBig zs with _ | _
                      all_goals
                        rw [hbz] at HB
                        clear hbz
                        go_wp2_with (at_builtin; (refine wpList_append_one _ _ 23 ⟨s, c⟩ _ 24 _ infoE Try.underlying23 hrow2 encE_len (by omega) rfl (encE_one _) (by omega) (by omega) (by omega) (by rfl) (by rfl) (by rfl) (by rfl) (by simp) (by rfl) ?_); intro v2 w6 hown7 hg7)
                        go_roundw
                        case rel =>
                          have hf : ∃ left cnt zs', w6.ranges Try.prog 9 (plainElem (H := Unit) Try.prog 3) wp.heap.size wq.heap.size (xs.length + ys.length) D left cnt ∧ Own encE 2 60 w6 (wq.heap.size + 1) v2 zs' ∧ Value.bool _ = .bool (anyBig zs') ∧ ColN (keyE (xs ++ ys)) (totE (xs ++ ys)) left zs' ∧ zs'.length + cnt ≤ xs.length + ys.length ∧ Below wq.heap.size wq w6 := ⟨_, _, _, hrg2.kept hg7 hne hne2, hown7, by rw [HB.out], hcol2, by simp; omega, bel_only hbel2 hg7 (fun g hg => by have := hr4 g hg; omega)⟩
                          first | exact hf | ((repeat apply Exists.intro); exact ⟨hf, rfl⟩)
                        case measure => rw [(hrg2.kept hg7 hne hne2).left_eq, hrg.left_eq]; omega

end Go.Proofs.Ytcpkdpflkjjlcaa
