/- Contracts of payrollref44.entries and payrollref44.Entries. Conditions: strings' lengths fit the model. -/
import Derived.Test.YtbiajkknpkeeoaaRefBk
import Derived.Test.YtbiajkknpkeeoaaMergeB2
import Derived.Test.YtbiajkknpkeeoaaWage2
import Derived.Deep.RegionHeld3
namespace Go.Proofs.Ytbiajkknpkeeoaa
open Go.RowKit

theorem ent_kind4 {ws : List WageT} {p : PostT} (h : p.line.kind ≠ 1) : entMiss ws p = false ∧ entOf ws p = entsK p.line.kind p.run p.line.amount := by
  simp [entMiss, entOf, h]

set_option maxRecDepth 100000 in
set_option maxHeartbeats 4000000 in
theorem entries44_any (A : Option Addr) (cap : Nat) (ws : List WageT) (p : PostT) (w : World) (h : SliceOf encW 6 w w.heap.size A ws) (hl : ws.length ≤ 9223372036854775806) (ha1 : -1000000000000 ≤ p.line.amount) (ha2 : p.line.amount ≤ 1000000000000) :
    Calls Try.prog 38 #[.slice A ws.length cap, .int .i64 p.run, .agg #[.int .i64 p.line.kind, .string p.line.code, .int .i64 p.line.amount]] w (EntPost ws p w) := by
  obtain ⟨run, emp, per, kind, code, amount⟩ := p
  simp only at ha1 ha2 ⊢
  have hS := h.advA (.cells #[.int .i64 kind, .string code, .int .i64 amount] 26)
  have hbel : Below w.heap.size w (w.alloc (.cells #[.int .i64 kind, .string code, .int .i64 amount] 26)) := below_new _ _
  by_cases hk1 : kind = 1
  · subst hk1
    have HMD : Hid (entMiss ws ⟨run, emp, per, 1, code, amount⟩ = (findW ws code).isNone) := by rw [Hid, entMiss]; simp
    have HOD : Hid (entOf ws ⟨run, emp, per, 1, code, amount⟩ = (match findW ws code with | some t => [⟨run, t.account, amount⟩] | none => [])) := by rw [Hid, entOf, if_pos rfl]; rfl
    go_enter Try.func38, Try.ntmps38
    go_wp2_with fail
    refine (find26_any A cap ws code _ hS hl).mono ?_
    rintro e w1 ⟨rfl, hb1⟩
    have hbel1 := bel_adv hbel hb1
    rcases hf : findW ws code with _ | t
    · rw [hf] at HMD
      have HMi : Hid (entMiss ws ⟨run, emp, per, 1, code, amount⟩ = true) := HMD.out
      rw [show foundV none = .tuple #[.agg #[.string ⟨#[]⟩, .int .i64 0, .bool false, .bool false, .bool false, .int .i64 0], .bool false] from rfl]
      clear hf HMD HOD
      go_wp2
      go_ret2
      exact ⟨_, by rw [HMi.out]; rfl, (fun h => by rw [HMi.out] at h; cases h), bel_alloc (bel_alloc hbel1 _) _⟩
    · rw [hf] at HMD HOD
      have HMi : Hid (entMiss ws ⟨run, emp, per, 1, code, amount⟩ = false) := HMD.out
      rw [show foundV (some t) = .tuple #[.agg #[.string t.code, .int .i64 t.kind, .bool t.taxable, .bool t.insured, .bool t.attachable, .int .i64 t.account], .bool true] from rfl]
      clear hf HMD
      have hN := SliceOf.new encB_len (w1.alloc (.cells #[.string t.code, .int .i64 t.kind, .bool t.taxable, .bool t.insured, .bool t.attachable, .int .i64 t.account] 68)) [(⟨run, t.account, amount⟩ : BookT)] #[.int .i64 run, .int .i64 t.account, .int .i64 amount] 42 rfl
      have hN2 := hN.more (B' := ((w1.alloc (.cells #[.string t.code, .int .i64 t.kind, .bool t.taxable, .bool t.insured, .bool t.attachable, .int .i64 t.account] 68)).alloc (.cells #[.int .i64 run, .int .i64 t.account, .int .i64 amount] 42)).heap.size) (by simp)
      simp only [World.size_alloc] at hN2
      have HN2 := Lib.hid hN2
      clear hN hN2
      go_wp2
      go_ret2
      refine ⟨_, by rw [HMi.out]; rfl, fun _ => ⟨some ⟨w1.heap.size + 1, 0, none⟩, 1, by rw [HOD.out]; rfl, ?_⟩, bel_alloc (bel_alloc hbel1 _) _⟩
      rw [HOD.out]
      simp only [World.size_alloc]
      exact HN2.out
  obtain ⟨hM, hO⟩ := ent_kind4 (ws := ws) (p := ⟨run, emp, per, kind, code, amount⟩) hk1
  simp only at hO
  have HM := Lib.hid hM
  have HO := Lib.hid hO
  clear hM hO hS
  by_cases hk3 : kind = 3
  · subst hk3
    have HE : Hid (entsK 3 run amount = [(⟨run, 106, -amount⟩ : BookT)]) := rfl
    have hN := SliceOf.new encB_len (w.alloc (.cells #[.int .i64 3, .string code, .int .i64 amount] 26)) [(⟨run, 106, -amount⟩ : BookT)] #[.int .i64 run, .int .i64 106, .int .i64 (-amount)] 42 rfl
    have hN2 := hN.more (B' := ((w.alloc (.cells #[.int .i64 3, .string code, .int .i64 amount] 26)).alloc (.cells #[.int .i64 run, .int .i64 106, .int .i64 (-amount)] 42)).heap.size) (by simp)
    simp only [World.size_alloc] at hN2
    have HN2 := Lib.hid hN2
    clear hN hN2
    go_enter Try.func38, Try.ntmps38
    go_wp2
    go_ret2
    refine ⟨_, by rw [HM.out]; rfl, fun _ => ⟨some ⟨w.heap.size + 1, 0, none⟩, 1, by rw [HO.out, HE.out]; rfl, ?_⟩, bel_alloc hbel _⟩
    rw [HO.out, HE.out]
    simp only [World.size_alloc]
    exact HN2.out
  by_cases hk4 : kind = 4
  · subst hk4
    have HE : Hid (entsK 4 run amount = [(⟨run, 103, -amount⟩ : BookT)]) := rfl
    have hN := SliceOf.new encB_len (w.alloc (.cells #[.int .i64 4, .string code, .int .i64 amount] 26)) [(⟨run, 103, -amount⟩ : BookT)] #[.int .i64 run, .int .i64 103, .int .i64 (-amount)] 42 rfl
    have hN2 := hN.more (B' := ((w.alloc (.cells #[.int .i64 4, .string code, .int .i64 amount] 26)).alloc (.cells #[.int .i64 run, .int .i64 103, .int .i64 (-amount)] 42)).heap.size) (by simp)
    simp only [World.size_alloc] at hN2
    have HN2 := Lib.hid hN2
    clear hN hN2
    go_enter Try.func38, Try.ntmps38
    go_wp2
    go_ret2
    refine ⟨_, by rw [HM.out]; rfl, fun _ => ⟨some ⟨w.heap.size + 1, 0, none⟩, 1, by rw [HO.out, HE.out]; rfl, ?_⟩, bel_alloc hbel _⟩
    rw [HO.out, HE.out]
    simp only [World.size_alloc]
    exact HN2.out
  by_cases hk5 : kind = 5
  · subst hk5
    have HE : Hid (entsK 5 run amount = [(⟨run, 104, amount⟩ : BookT), (⟨run, 103, -amount⟩ : BookT)]) := rfl
    have hN := SliceOf.new encB_len (w.alloc (.cells #[.int .i64 5, .string code, .int .i64 amount] 26)) [(⟨run, 104, amount⟩ : BookT), (⟨run, 103, -amount⟩ : BookT)] #[.int .i64 run, .int .i64 104, .int .i64 (amount), .int .i64 run, .int .i64 103, .int .i64 (-amount)] 42 rfl
    have hN2 := hN.more (B' := ((w.alloc (.cells #[.int .i64 5, .string code, .int .i64 amount] 26)).alloc (.cells #[.int .i64 run, .int .i64 104, .int .i64 (amount), .int .i64 run, .int .i64 103, .int .i64 (-amount)] 42)).heap.size) (by simp)
    simp only [World.size_alloc] at hN2
    have HN2 := Lib.hid hN2
    clear hN hN2
    go_enter Try.func38, Try.ntmps38
    go_wp2
    go_ret2
    refine ⟨_, by rw [HM.out]; rfl, fun _ => ⟨some ⟨w.heap.size + 1, 0, none⟩, 2, by rw [HO.out, HE.out]; rfl, ?_⟩, bel_alloc hbel _⟩
    rw [HO.out, HE.out]
    simp only [World.size_alloc]
    exact HN2.out
  by_cases hk6 : kind = 6
  · subst hk6
    have HE : Hid (entsK 6 run amount = [(⟨run, 102, -amount⟩ : BookT)]) := rfl
    have hN := SliceOf.new encB_len (w.alloc (.cells #[.int .i64 6, .string code, .int .i64 amount] 26)) [(⟨run, 102, -amount⟩ : BookT)] #[.int .i64 run, .int .i64 102, .int .i64 (-amount)] 42 rfl
    have hN2 := hN.more (B' := ((w.alloc (.cells #[.int .i64 6, .string code, .int .i64 amount] 26)).alloc (.cells #[.int .i64 run, .int .i64 102, .int .i64 (-amount)] 42)).heap.size) (by simp)
    simp only [World.size_alloc] at hN2
    have HN2 := Lib.hid hN2
    clear hN hN2
    go_enter Try.func38, Try.ntmps38
    go_wp2
    go_ret2
    refine ⟨_, by rw [HM.out]; rfl, fun _ => ⟨some ⟨w.heap.size + 1, 0, none⟩, 1, by rw [HO.out, HE.out]; rfl, ?_⟩, bel_alloc hbel _⟩
    rw [HO.out, HE.out]
    simp only [World.size_alloc]
    exact HN2.out
  by_cases hk7 : kind = 7
  · subst hk7
    have HE : Hid (entsK 7 run amount = [(⟨run, 105, -amount⟩ : BookT)]) := rfl
    have hN := SliceOf.new encB_len (w.alloc (.cells #[.int .i64 7, .string code, .int .i64 amount] 26)) [(⟨run, 105, -amount⟩ : BookT)] #[.int .i64 run, .int .i64 105, .int .i64 (-amount)] 42 rfl
    have hN2 := hN.more (B' := ((w.alloc (.cells #[.int .i64 7, .string code, .int .i64 amount] 26)).alloc (.cells #[.int .i64 run, .int .i64 105, .int .i64 (-amount)] 42)).heap.size) (by simp)
    simp only [World.size_alloc] at hN2
    have HN2 := Lib.hid hN2
    clear hN hN2
    go_enter Try.func38, Try.ntmps38
    go_wp2
    go_ret2
    refine ⟨_, by rw [HM.out]; rfl, fun _ => ⟨some ⟨w.heap.size + 1, 0, none⟩, 1, by rw [HO.out, HE.out]; rfl, ?_⟩, bel_alloc hbel _⟩
    rw [HO.out, HE.out]
    simp only [World.size_alloc]
    exact HN2.out
  by_cases hk8 : kind = 8
  · subst hk8
    have HE : Hid (entsK 8 run amount = [(⟨run, 107, -amount⟩ : BookT)]) := rfl
    have hN := SliceOf.new encB_len (w.alloc (.cells #[.int .i64 8, .string code, .int .i64 amount] 26)) [(⟨run, 107, -amount⟩ : BookT)] #[.int .i64 run, .int .i64 107, .int .i64 (-amount)] 42 rfl
    have hN2 := hN.more (B' := ((w.alloc (.cells #[.int .i64 8, .string code, .int .i64 amount] 26)).alloc (.cells #[.int .i64 run, .int .i64 107, .int .i64 (-amount)] 42)).heap.size) (by simp)
    simp only [World.size_alloc] at hN2
    have HN2 := Lib.hid hN2
    clear hN hN2
    go_enter Try.func38, Try.ntmps38
    go_wp2
    go_ret2
    refine ⟨_, by rw [HM.out]; rfl, fun _ => ⟨some ⟨w.heap.size + 1, 0, none⟩, 1, by rw [HO.out, HE.out]; rfl, ?_⟩, bel_alloc hbel _⟩
    rw [HO.out, HE.out]
    simp only [World.size_alloc]
    exact HN2.out
  by_cases hk9 : kind = 9
  · subst hk9
    have HE : Hid (entsK 9 run amount = [(⟨run, 100, -amount⟩ : BookT)]) := rfl
    have hN := SliceOf.new encB_len (w.alloc (.cells #[.int .i64 9, .string code, .int .i64 amount] 26)) [(⟨run, 100, -amount⟩ : BookT)] #[.int .i64 run, .int .i64 100, .int .i64 (-amount)] 42 rfl
    have hN2 := hN.more (B' := ((w.alloc (.cells #[.int .i64 9, .string code, .int .i64 amount] 26)).alloc (.cells #[.int .i64 run, .int .i64 100, .int .i64 (-amount)] 42)).heap.size) (by simp)
    simp only [World.size_alloc] at hN2
    have HN2 := Lib.hid hN2
    clear hN hN2
    go_enter Try.func38, Try.ntmps38
    go_wp2
    go_ret2
    refine ⟨_, by rw [HM.out]; rfl, fun _ => ⟨some ⟨w.heap.size + 1, 0, none⟩, 1, by rw [HO.out, HE.out]; rfl, ?_⟩, bel_alloc hbel _⟩
    rw [HO.out, HE.out]
    simp only [World.size_alloc]
    exact HN2.out
  by_cases hk10 : kind = 10
  · subst hk10
    have HE : Hid (entsK 10 run amount = [(⟨run, 101, amount⟩ : BookT)]) := rfl
    have hN := SliceOf.new encB_len (w.alloc (.cells #[.int .i64 10, .string code, .int .i64 amount] 26)) [(⟨run, 101, amount⟩ : BookT)] #[.int .i64 run, .int .i64 101, .int .i64 (amount)] 42 rfl
    have hN2 := hN.more (B' := ((w.alloc (.cells #[.int .i64 10, .string code, .int .i64 amount] 26)).alloc (.cells #[.int .i64 run, .int .i64 101, .int .i64 (amount)] 42)).heap.size) (by simp)
    simp only [World.size_alloc] at hN2
    have HN2 := Lib.hid hN2
    clear hN hN2
    go_enter Try.func38, Try.ntmps38
    go_wp2
    go_ret2
    refine ⟨_, by rw [HM.out]; rfl, fun _ => ⟨some ⟨w.heap.size + 1, 0, none⟩, 1, by rw [HO.out, HE.out]; rfl, ?_⟩, bel_alloc hbel _⟩
    rw [HO.out, HE.out]
    simp only [World.size_alloc]
    exact HN2.out
  have HE : Hid (entsK kind run amount = []) := by simp [Hid, entsK, *]
  have k1 : (kind == 1) = false := by simpa using hk1
  have k3 : (kind == 3) = false := by simpa using hk3
  have k4 : (kind == 4) = false := by simpa using hk4
  have k5 : (kind == 5) = false := by simpa using hk5
  have k6 : (kind == 6) = false := by simpa using hk6
  have k7 : (kind == 7) = false := by simpa using hk7
  have k8 : (kind == 8) = false := by simpa using hk8
  have k9 : (kind == 9) = false := by simpa using hk9
  have k10 : (kind == 10) = false := by simpa using hk10
  clear hk1 hk3 hk4 hk5 hk6 hk7 hk8 hk9 hk10
  go_enter Try.func38, Try.ntmps38
  go_wp2
  go_ret2
  refine ⟨_, by rw [HM.out]; rfl, fun _ => ⟨none, 0, by rw [HO.out, HE.out]; rfl, by rw [HO.out, HE.out]; exact SliceOf.nil_⟩, hbel⟩

set_option maxRecDepth 100000 in
set_option maxHeartbeats 4000000 in
theorem Entries44_any (A B : Option Addr) (cap bcap : Nat) (ws : List WageT) (l : List PostT) (w : World) (h : SliceOf encW 6 w w.heap.size A ws) (hz : ∀ x ∈ ws, x.code.size ≤ maxLen) (hl : ws.length ≤ 9223372036854775806)
    (hy : SliceOf encP 6 w w.heap.size B l) (hyz : ∀ x ∈ l, x.line.code.size ≤ maxLen) (hyl : l.length ≤ 9223372036854775806) :
    Calls Try.prog 14 #[.slice A ws.length cap, .slice B l.length bcap] w (BPost (eRes ws l) (eErr ws l) w) := by
  have HZ := Lib.hid hz; clear hz
  have HYZ := Lib.hid hyz; clear hyz
  have fail_ : ∀ (n : Int) (W : World), n ≠ 0 → eErr ws l = n → Below w.heap.size w W → BPost (eRes ws l) (eErr ws l) w (Ending.returned (.tuple #[.slice none 0 0, .int .i64 n])) W :=
    fun n W hn he hb => BPost.fail (eRes_no he hn) he hb
  have FAIL := Lib.hid fail_
  clear fail_
  go_enter Try.func14, Try.ntmps14
  go_wp2_with fail
  refine (valid26_any A cap ws _ h HZ.out (by omega)).mono ?_
  rintro e w1 ⟨rfl, hb1⟩
  by_cases hv : validB ws = true
  rotate_left
  · have hv' : validB ws = false := by simpa using hv
    clear hv
    go_wp2
    go_ret2
    exact FAIL.out 1 _ (by omega) (eErr_1 (.inl hv')) hb1
  go_wp2_with fail
  refine (book35_any B bcap l _ (hy.adv hb1) hyl HYZ.out).mono ?_
  rintro e w2 ⟨rfl, hb2⟩
  have hbel2 := bel_adv hb1 hb2
  by_cases hb : bookB l = true
  rotate_left
  · have hb' : bookB l = false := by simpa using hb
    clear hb
    go_wp2
    go_ret2
    exact FAIL.out 1 _ (by omega) (eErr_1 (.inr hb')) hbel2
  have hll : l.length ≤ 65536 := ((bookB_iff l).1 hb).1
  have HVP := Lib.hid ((bookB_iff l).1 hb).2.2
  have HMI := Lib.hid (eErr_16 (l := l) hv hb)
  have HOK := Lib.hid (eErr_m (l := l) hv hb)
  go_wp2_with fail
  clear hv hb hyl
  go_loopw [6, 7] (fun v i wr => ∃ k : Nat, k ≤ l.length ∧ i = .int .i64 k ∧ Hid (∀ j, (hj : j < l.length) → j < k → entMiss ws l[j] = false) ∧ Own encB 3 42 wr w2.heap.size v (entAll ws (l.take k)) ∧ Below w2.heap.size w2 wr) (fun _ i _ => l.length - (intOf i).toNat)
  case atStart => exact ⟨0, by omega, rfl, fun j _ hj => absurd hj (by omega), Own.nil_ _ _, Below.refl _ _⟩
  case round =>
    obtain ⟨k, hk, rfl, hall, hown, hbel⟩ := hrel
    have hbs := hbel.size
    have hal : (entAll ws (l.take k)).length ≤ 131072 := Nat.le_trans (entAll_len _ _) (by simp; omega)
    by_cases hlt : k < l.length
    · obtain ⟨b, off, hA0, hbb, hc⟩ := ((hy.adv hbel2).adv hbel).at_ hlt
      subst hA0
      have c0 := hc 0 _ rfl
      have c1 := hc 1 _ rfl
      have c2 := hc 2 _ rfl
      have c3 := hc 3 _ rfl
      have c4 := hc 4 _ rfl
      have c5 := hc 5 _ rfl
      simp only [Nat.add_zero] at c0
      clear hc
      obtain ⟨a1, a2⟩ := validP_amt (HVP.out _ (List.getElem_mem hlt))
      have hi1 : (k : Int) < (l.length : Int) := by omega
      have hownA : Own encB 3 42 wr.drew w2.heap.size u6 (entAll ws (l.take k)) := hown
      have hbelA : Below w2.heap.size w2 wr.drew := ⟨hbel.os, hbel.tape, hbel.output, hbel.size, hbel.block⟩
      have hwA0 := (h.adv hbel2).adv hbel
      have hwA : SliceOf encW 6 wr.drew wr.drew.heap.size A ws := hwA0
      clear hwA0
      go_wp2_with fail
      go_region_held3 (fun w' => w'.cell? ⟨b, off + k * 6, none⟩ = some (.int .i64 l[k].run) ∧ w'.cell? ⟨b, off + k * 6 + 3, none⟩ = some (.int .i64 l[k].line.kind) ∧ w'.cell? ⟨b, off + k * 6 + 4, none⟩ = some (.string l[k].line.code) ∧ w'.cell? ⟨b, off + k * 6 + 5, none⟩ = some (.int .i64 l[k].line.amount))
        (first | exact ⟨c0, c3, c4, c5⟩ | exact ⟨d0, d3, d4, d5⟩)
        (first | (go_at_call 38; refine (entries44_any A cap ws l[k] _ hwA hl a1 a2).mono ?_; rintro e w4 ⟨v4, rfl, hent, hb4⟩; have d0 := (hb4.cell (p := ⟨b, off + k * 6, none⟩) hbb).trans c0; have d3 := (hb4.cell (p := ⟨b, off + k * 6 + 3, none⟩) hbb).trans c3; have d4 := (hb4.cell (p := ⟨b, off + k * 6 + 4, none⟩) hbb).trans c4; have d5 := (hb4.cell (p := ⟨b, off + k * 6 + 5, none⟩) hbb).trans c5))
      have hown4 := hownA.adv hb4
      have hbel4 := bel_adv hbelA hb4
      have hbs4 := hbel4.size
      have HT := Lib.hid (entAll_take ws l k hlt)
      have hel := entOf_len ws l[k]
      clear c0 c1 c2 c3 c4 c5 d0 d3 d4 d5 hownA hbelA hb4 hown hbel hwA
      rcases hm : entMiss ws l[k] with _ | _
      · obtain ⟨A4, c4', rfl, hS4⟩ := hent hm
        have HN : Hid (∀ j, (hj : j < l.length) → j < k + 1 → entMiss ws l[j] = false) := by
          intro j hj hjk
          rcases Nat.lt_or_ge j k with h3 | h3
          · exact hall.out j hj h3
          · obtain rfl : j = k := by omega
            exact hm
        clear hent hm
        have hr7 := fun g hg => (hown4.block_lt (g := g) hg).1
        go_wp2_with (at_builtin; (refine wpList_append_list (ys := entOf ws l[k]) _ _ 32 _ 24 _ infoB Try.underlying32 hown4 hS4 encB_len (by omega) rfl encB_one (by omega) (by omega) hbs4 (by rfl) (by rfl) (by rfl) (by rfl) (by rfl) ?_); intro v6 w6 hown6 hg6)
        go_roundw
        case rel => exact ⟨k + 1, by omega, by go_num, HN, by rw [HT.out]; exact hown6, bel_only hbel4 hg6 hr7⟩
        case measure => simp [intOf]; omega
      · have HM2 := Lib.hid (HMI.out (List.any_eq_true.2 ⟨l[k], List.getElem_mem _, hm⟩))
        clear hent hm
        go_wp2
        go_ret2
        exact FAIL.out 16 _ (by omega) HM2.out (bel_adv hbel2 hbel4)
    · rw [List.take_of_length_le (by omega)] at hown hal
      have HM2 : Hid (eErr ws l = mErrB (entAll ws l)) := HOK.out (by
        rw [List.any_eq_false]
        intro x hx
        obtain ⟨j, hj, rfl⟩ := List.mem_iff_getElem.1 hx
        simp [hall.out j hj (by omega)])
      have HR2 := Lib.hid (eRes_m HM2.out)
      generalize entAll ws l = es at hown hal HM2 HR2
      obtain ⟨A5, c5', rfl, hS5, hB5, hlc5, hcm5⟩ := hown.form2 encB_len
      go_wp2_with fail
      refine (mergeB44_any A5 c5' es _ hS5 (by omega)).mono ?_
      rintro e w7 ⟨A7, c7, rfl, hS7, hlc7, hcm7, hb7⟩
      go_wp2
      go_ret2
      rw [HM2.out, HR2.out]
      exact ⟨A7, c7, rfl, hS7, hlc7, hcm7, bel_adv hbel2 (bel_adv hbel hb7)⟩

end Go.Proofs.Ytbiajkknpkeeoaa
