/- Contracts of ledger.entries and of its closure. Conditions: as stated. -/
import Derived.Test.YtbiajkknpkeeoaaBookG
import Derived.Test.YtbiajkknpkeeoaaMergeB
namespace Go.Proofs.Ytbiajkknpkeeoaa
open Go.RowKit

set_option maxRecDepth 100000 in
set_option maxHeartbeats 1000000 in
theorem entryC_any (a n r : Int) (g : Nat) (w : World) (hc : w.cell? ⟨g, 0, none⟩ = some (.int .i64 r)) (hg : g < w.heap.size) :
    Calls Try.prog 53 #[.int .i64 a, .int .i64 n, .pointer (some ⟨g, 0, none⟩)] w fun e w' => e = .returned (.agg #[.int .i64 r, .int .i64 a, .int .i64 n]) ∧ Below w.heap.size w w' := by
  go_enter Try.func53, Try.ntmps53
  go_wp2
  exact bodyPost_ret (v := .agg #[.int .i64 r, .int .i64 a, .int .i64 n]) (by simp [results, Try.results53, go_sem]) rfl ⟨rfl, bel_alloc (Below.refl _ _) _⟩

theorem ent_kind {ws : List WageT} {p : PostT} (h : p.line.kind ≠ 1) : entMiss ws p = false ∧ entOf ws p = entsK p.line.kind p.run p.line.amount := by
  simp [entMiss, entOf, h]

set_option maxRecDepth 100000 in
set_option maxHeartbeats 4000000 in
theorem entries_any (A : Option Addr) (cap : Nat) (ws : List WageT) (p : PostT) (w : World) (h : SliceOf encW 6 w w.heap.size A ws) (hl : ws.length ≤ 9223372036854775806) (ha1 : -1000000000000 ≤ p.line.amount) (ha2 : p.line.amount ≤ 1000000000000) :
    Calls Try.prog 35 #[.slice A ws.length cap, .agg #[.int .i64 p.run, .int .i64 p.employee, .int .i64 p.period, .int .i64 p.line.kind, .string p.line.code, .int .i64 p.line.amount]] w (EntPost ws p w) := by
  obtain ⟨run, emp, per, kind, code, amount⟩ := p
  simp only at ha1 ha2 ⊢
  have hS := h.advA (.cells #[.int .i64 run, .int .i64 emp, .int .i64 per, .int .i64 kind, .string code, .int .i64 amount] 28)
  have hB := Blk.new w 28 #[.int .i64 run, .int .i64 emp, .int .i64 per, .int .i64 kind, .string code, .int .i64 amount]
  have hbel : Below w.heap.size w (w.alloc (.cells #[.int .i64 run, .int .i64 emp, .int .i64 per, .int .i64 kind, .string code, .int .i64 amount] 28)) := below_new _ _
  by_cases hk1 : kind = 1
  · subst hk1
    have HMD : Hid (entMiss ws ⟨run, emp, per, 1, code, amount⟩ = (findW ws code).isNone) := by rw [Hid, entMiss]; simp
    have HOD : Hid (entOf ws ⟨run, emp, per, 1, code, amount⟩ = (match findW ws code with | some t => [⟨run, t.account, amount⟩] | none => [])) := by rw [Hid, entOf, if_pos rfl]; rfl
    go_enter Try.func35, Try.ntmps35
    go_wp2_with fail
    refine (find_any A cap ws code _ hS hl).mono ?_
    rintro e w1 ⟨rfl, hb1⟩
    have hB1 := hB.adv hb1
    have hbel1 := bel_adv hbel hb1
    rcases hf : findW ws code with _ | t
    · rw [hf] at HMD
      have HMi : Hid (entMiss ws ⟨run, emp, per, 1, code, amount⟩ = true) := HMD.out
      rw [show foundV none = .tuple #[.agg #[.string ⟨#[]⟩, .int .i64 0, .bool false, .bool false, .bool false, .int .i64 0], .bool false] from rfl]
      clear hf HMD HOD
      go_wp2
      go_ret2
      exact ⟨_, by rw [HMi.out]; rfl, (fun h => by rw [HMi.out] at h; cases h), bel_alloc hbel1 _⟩
    · rw [hf] at HMD HOD
      have HMi : Hid (entMiss ws ⟨run, emp, per, 1, code, amount⟩ = false) := HMD.out
      rw [show foundV (some t) = .tuple #[.agg #[.string t.code, .int .i64 t.kind, .bool t.taxable, .bool t.insured, .bool t.attachable, .int .i64 t.account], .bool true] from rfl]
      clear hf HMD
      have hB2 := hB1.alloc (.cells #[.string t.code, .int .i64 t.kind, .bool t.taxable, .bool t.insured, .bool t.attachable, .int .i64 t.account] 68)
      have hbel2 := bel_alloc hbel1 (.cells #[.string t.code, .int .i64 t.kind, .bool t.taxable, .bool t.insured, .bool t.attachable, .int .i64 t.account] 68)
      go_wp2_with fail
      refine (entryC_any t.account amount run _ _ ((hB2.cell 0).trans rfl) hB2.lt).mono ?_
      rintro e w3 ⟨rfl, hb3⟩
      have hbel3 := bel_adv hbel2 hb3
      go_wp2
      have hN := SliceOf.new encB_len w3 [(⟨run, t.account, amount⟩ : BookT)] #[.int .i64 run, .int .i64 t.account, .int .i64 amount] 42 rfl
      go_ret2
      refine ⟨_, by rw [HMi.out]; rfl, fun _ => ⟨some ⟨w3.heap.size, 0, none⟩, 1, by rw [HOD.out]; rfl, by rw [HOD.out]; exact hN.more (by simp)⟩, bel_alloc hbel3 _⟩
  obtain ⟨hM, hO⟩ := ent_kind (ws := ws) (p := ⟨run, emp, per, kind, code, amount⟩) hk1
  simp only at hO
  have HM := Lib.hid hM
  have HO := Lib.hid hO
  clear hM hO
  by_cases hk3 : kind = 3
  · subst hk3
    have HE : Hid (entsK 3 run amount = [(⟨run, 106, -amount⟩ : BookT)]) := rfl
    have z0 := hB.cell 0
    simp only [List.getElem?_toArray, List.getElem?_cons_zero] at z0
    go_enter Try.func35, Try.ntmps35
    go_wp2_with fail
    refine (entryC_any 106 (-amount) run _ _ ((hB.cell 0).trans rfl) hB.lt).mono ?_
    rintro e w1 ⟨rfl, hb1⟩
    have hB1 := hB.adv hb1
    have hbel1 := bel_adv hbel hb1
    go_wp2
    have hN := SliceOf.new encB_len w1 [(⟨run, 106, -amount⟩ : BookT)] #[.int .i64 run, .int .i64 106, .int .i64 (-amount)] 42 rfl
    go_ret2
    refine ⟨_, by rw [HM.out]; rfl, fun _ => ⟨some ⟨w1.heap.size, 0, none⟩, 1, by rw [HO.out, HE.out]; rfl, by rw [HO.out, HE.out]; exact hN.more (by simp)⟩, bel_alloc hbel1 _⟩
  by_cases hk4 : kind = 4
  · subst hk4
    have HE : Hid (entsK 4 run amount = [(⟨run, 103, -amount⟩ : BookT)]) := rfl
    have z0 := hB.cell 0
    simp only [List.getElem?_toArray, List.getElem?_cons_zero] at z0
    go_enter Try.func35, Try.ntmps35
    go_wp2_with fail
    refine (entryC_any 103 (-amount) run _ _ ((hB.cell 0).trans rfl) hB.lt).mono ?_
    rintro e w1 ⟨rfl, hb1⟩
    have hB1 := hB.adv hb1
    have hbel1 := bel_adv hbel hb1
    go_wp2
    have hN := SliceOf.new encB_len w1 [(⟨run, 103, -amount⟩ : BookT)] #[.int .i64 run, .int .i64 103, .int .i64 (-amount)] 42 rfl
    go_ret2
    refine ⟨_, by rw [HM.out]; rfl, fun _ => ⟨some ⟨w1.heap.size, 0, none⟩, 1, by rw [HO.out, HE.out]; rfl, by rw [HO.out, HE.out]; exact hN.more (by simp)⟩, bel_alloc hbel1 _⟩
  by_cases hk5 : kind = 5
  · subst hk5
    have HE : Hid (entsK 5 run amount = [(⟨run, 104, amount⟩ : BookT), (⟨run, 103, -amount⟩ : BookT)]) := rfl
    have z0 := hB.cell 0
    simp only [List.getElem?_toArray, List.getElem?_cons_zero] at z0
    go_enter Try.func35, Try.ntmps35
    go_wp2_with fail
    refine (entryC_any 104 (amount) run _ _ ((hB.cell 0).trans rfl) hB.lt).mono ?_
    rintro e w1 ⟨rfl, hb1⟩
    have hB1 := hB.adv hb1
    have hbel1 := bel_adv hbel hb1
    go_wp2_with fail
    refine (entryC_any 103 (-amount) run _ _ ((hB1.cell 0).trans rfl) hB1.lt).mono ?_
    rintro e w2 ⟨rfl, hb2⟩
    have hB2 := hB1.adv hb2
    have hbel2 := bel_adv hbel1 hb2
    go_wp2
    have hN := SliceOf.new encB_len w2 [(⟨run, 104, amount⟩ : BookT), (⟨run, 103, -amount⟩ : BookT)] #[.int .i64 run, .int .i64 104, .int .i64 (amount), .int .i64 run, .int .i64 103, .int .i64 (-amount)] 42 rfl
    go_ret2
    refine ⟨_, by rw [HM.out]; rfl, fun _ => ⟨some ⟨w2.heap.size, 0, none⟩, 2, by rw [HO.out, HE.out]; rfl, by rw [HO.out, HE.out]; exact hN.more (by simp)⟩, bel_alloc hbel2 _⟩
  by_cases hk6 : kind = 6
  · subst hk6
    have HE : Hid (entsK 6 run amount = [(⟨run, 102, -amount⟩ : BookT)]) := rfl
    have z0 := hB.cell 0
    simp only [List.getElem?_toArray, List.getElem?_cons_zero] at z0
    go_enter Try.func35, Try.ntmps35
    go_wp2_with fail
    refine (entryC_any 102 (-amount) run _ _ ((hB.cell 0).trans rfl) hB.lt).mono ?_
    rintro e w1 ⟨rfl, hb1⟩
    have hB1 := hB.adv hb1
    have hbel1 := bel_adv hbel hb1
    go_wp2
    have hN := SliceOf.new encB_len w1 [(⟨run, 102, -amount⟩ : BookT)] #[.int .i64 run, .int .i64 102, .int .i64 (-amount)] 42 rfl
    go_ret2
    refine ⟨_, by rw [HM.out]; rfl, fun _ => ⟨some ⟨w1.heap.size, 0, none⟩, 1, by rw [HO.out, HE.out]; rfl, by rw [HO.out, HE.out]; exact hN.more (by simp)⟩, bel_alloc hbel1 _⟩
  by_cases hk7 : kind = 7
  · subst hk7
    have HE : Hid (entsK 7 run amount = [(⟨run, 105, -amount⟩ : BookT)]) := rfl
    have z0 := hB.cell 0
    simp only [List.getElem?_toArray, List.getElem?_cons_zero] at z0
    go_enter Try.func35, Try.ntmps35
    go_wp2_with fail
    refine (entryC_any 105 (-amount) run _ _ ((hB.cell 0).trans rfl) hB.lt).mono ?_
    rintro e w1 ⟨rfl, hb1⟩
    have hB1 := hB.adv hb1
    have hbel1 := bel_adv hbel hb1
    go_wp2
    have hN := SliceOf.new encB_len w1 [(⟨run, 105, -amount⟩ : BookT)] #[.int .i64 run, .int .i64 105, .int .i64 (-amount)] 42 rfl
    go_ret2
    refine ⟨_, by rw [HM.out]; rfl, fun _ => ⟨some ⟨w1.heap.size, 0, none⟩, 1, by rw [HO.out, HE.out]; rfl, by rw [HO.out, HE.out]; exact hN.more (by simp)⟩, bel_alloc hbel1 _⟩
  by_cases hk8 : kind = 8
  · subst hk8
    have HE : Hid (entsK 8 run amount = [(⟨run, 107, -amount⟩ : BookT)]) := rfl
    have z0 := hB.cell 0
    simp only [List.getElem?_toArray, List.getElem?_cons_zero] at z0
    go_enter Try.func35, Try.ntmps35
    go_wp2_with fail
    refine (entryC_any 107 (-amount) run _ _ ((hB.cell 0).trans rfl) hB.lt).mono ?_
    rintro e w1 ⟨rfl, hb1⟩
    have hB1 := hB.adv hb1
    have hbel1 := bel_adv hbel hb1
    go_wp2
    have hN := SliceOf.new encB_len w1 [(⟨run, 107, -amount⟩ : BookT)] #[.int .i64 run, .int .i64 107, .int .i64 (-amount)] 42 rfl
    go_ret2
    refine ⟨_, by rw [HM.out]; rfl, fun _ => ⟨some ⟨w1.heap.size, 0, none⟩, 1, by rw [HO.out, HE.out]; rfl, by rw [HO.out, HE.out]; exact hN.more (by simp)⟩, bel_alloc hbel1 _⟩
  by_cases hk9 : kind = 9
  · subst hk9
    have HE : Hid (entsK 9 run amount = [(⟨run, 100, -amount⟩ : BookT)]) := rfl
    have z0 := hB.cell 0
    simp only [List.getElem?_toArray, List.getElem?_cons_zero] at z0
    go_enter Try.func35, Try.ntmps35
    go_wp2_with fail
    refine (entryC_any 100 (-amount) run _ _ ((hB.cell 0).trans rfl) hB.lt).mono ?_
    rintro e w1 ⟨rfl, hb1⟩
    have hB1 := hB.adv hb1
    have hbel1 := bel_adv hbel hb1
    go_wp2
    have hN := SliceOf.new encB_len w1 [(⟨run, 100, -amount⟩ : BookT)] #[.int .i64 run, .int .i64 100, .int .i64 (-amount)] 42 rfl
    go_ret2
    refine ⟨_, by rw [HM.out]; rfl, fun _ => ⟨some ⟨w1.heap.size, 0, none⟩, 1, by rw [HO.out, HE.out]; rfl, by rw [HO.out, HE.out]; exact hN.more (by simp)⟩, bel_alloc hbel1 _⟩
  by_cases hk10 : kind = 10
  · subst hk10
    have HE : Hid (entsK 10 run amount = [(⟨run, 101, amount⟩ : BookT)]) := rfl
    have z0 := hB.cell 0
    simp only [List.getElem?_toArray, List.getElem?_cons_zero] at z0
    go_enter Try.func35, Try.ntmps35
    go_wp2_with fail
    refine (entryC_any 101 (amount) run _ _ ((hB.cell 0).trans rfl) hB.lt).mono ?_
    rintro e w1 ⟨rfl, hb1⟩
    have hB1 := hB.adv hb1
    have hbel1 := bel_adv hbel hb1
    go_wp2
    have hN := SliceOf.new encB_len w1 [(⟨run, 101, amount⟩ : BookT)] #[.int .i64 run, .int .i64 101, .int .i64 (amount)] 42 rfl
    go_ret2
    refine ⟨_, by rw [HM.out]; rfl, fun _ => ⟨some ⟨w1.heap.size, 0, none⟩, 1, by rw [HO.out, HE.out]; rfl, by rw [HO.out, HE.out]; exact hN.more (by simp)⟩, bel_alloc hbel1 _⟩
  have HE : Hid (entsK kind run amount = []) := by rw [Hid, entsK]; simp [*]
  have q1 : (kind == 1) = false := by simpa using hk1
  have q3 : (kind == 3) = false := by simpa using hk3
  have q4 : (kind == 4) = false := by simpa using hk4
  have q5 : (kind == 5) = false := by simpa using hk5
  have q6 : (kind == 6) = false := by simpa using hk6
  have q7 : (kind == 7) = false := by simpa using hk7
  have q8 : (kind == 8) = false := by simpa using hk8
  have q9 : (kind == 9) = false := by simpa using hk9
  have q10 : (kind == 10) = false := by simpa using hk10
  clear hk1 hk3 hk4 hk5 hk6 hk7 hk8 hk9 hk10
  go_enter Try.func35, Try.ntmps35
  go_wp2
  go_ret2
  exact ⟨_, by rw [HM.out]; rfl, fun _ => ⟨none, 0, by rw [HO.out, HE.out]; rfl, by rw [HO.out, HE.out]; exact SliceOf.nil_⟩, hbel⟩

set_option maxRecDepth 100000 in
set_option maxHeartbeats 4000000 in
theorem Entries_any (A B : Option Addr) (cap bcap : Nat) (ws : List WageT) (l : List PostT) (w : World) (h : SliceOf encW 6 w w.heap.size A ws) (hz : ∀ x ∈ ws, x.code.size ≤ maxLen) (hl : ws.length ≤ 9223372036854775806)
    (hy : SliceOf encP 6 w w.heap.size B l) (hyz : ∀ x ∈ l, x.line.code.size ≤ maxLen) (hyl : l.length ≤ 9223372036854775806) :
    Calls Try.prog 12 #[.slice A ws.length cap, .slice B l.length bcap] w (BPost (eRes ws l) (eErr ws l) w) := by
  have HZ := Lib.hid hz; clear hz
  have HYZ := Lib.hid hyz; clear hyz
  have fail_ : ∀ (n : Int) (W : World), n ≠ 0 → eErr ws l = n → Below w.heap.size w W → BPost (eRes ws l) (eErr ws l) w (Ending.returned (.tuple #[.slice none 0 0, .int .i64 n])) W :=
    fun n W hn he hb => BPost.fail (eRes_no he hn) he hb
  have FAIL := Lib.hid fail_
  clear fail_
  go_enter Try.func12, Try.ntmps12
  go_wp2_with fail
  refine (valid_any A cap ws _ h HZ.out (by omega)).mono ?_
  rintro e w1 ⟨rfl, hb1⟩
  by_cases hv : validB ws = true
  rotate_left
  · have hv' : validB ws = false := by simpa using hv
    clear hv
    go_wp2
    go_ret2
    exact FAIL.out 1 _ (by omega) (eErr_1 (.inl hv')) hb1
  go_wp2_with fail
  refine (book_any B bcap l _ (hy.adv hb1) hyl HYZ.out).mono ?_
  rintro e w2 ⟨rfl, hb2⟩
  have hbel2 := bel_adv hb1 hb2
  by_cases hb : bookB l = true
  rotate_left
  · have hb' : bookB l = false := by simpa using hb
    clear hb
    go_wp2
    go_ret2
    exact FAIL.out 1 _ (by omega) (eErr_1 (.inr hb')) hbel2
  have hll : l.length ≤ 65536 := ((bookB_iff l).1 hb).1
  have HVP := Lib.hid ((bookB_iff l).1 hb).2.2
  have HMI := Lib.hid (eErr_16 (l := l) hv hb)
  have HOK := Lib.hid (eErr_m (l := l) hv hb)
  go_wp2_with fail
  clear hv hb hyl
  go_loopw [6, 21] (fun v i wr => ∃ k : Nat, k ≤ l.length ∧ i = .int .i64 k ∧ Hid (∀ j, (hj : j < l.length) → j < k → entMiss ws l[j] = false) ∧ Own encB 3 42 wr w2.heap.size v (entAll ws (l.take k)) ∧ Below w2.heap.size w2 wr) (fun _ i _ => l.length - (intOf i).toNat)
  case atStart => exact ⟨0, by omega, rfl, fun j _ hj => absurd hj (by omega), Own.nil_ _ _, Below.refl _ _⟩
  case round =>
    obtain ⟨k, hk, rfl, hall, hown, hbel⟩ := hrel
    have hbs := hbel.size
    have hal : (entAll ws (l.take k)).length ≤ 131072 := Nat.le_trans (entAll_len _ _) (by simp; omega)
    by_cases hlt : k < l.length
    · obtain ⟨b, off, rfl, hbb, hc⟩ := ((hy.adv hbel2).adv hbel).at_ hlt
      have c0 := hc 0 _ rfl
      have c1 := hc 1 _ rfl
      have c2 := hc 2 _ rfl
      have c3 := hc 3 _ rfl
      have c4 := hc 4 _ rfl
      have c5 := hc 5 _ rfl
      simp only [Nat.add_zero] at c0
      clear hc
      obtain ⟨a1, a2⟩ := validP_amt (HVP.out _ (List.getElem_mem hlt))
      have hownA := hown.alloc (.cells #[.int .i64 l[k].run, .int .i64 l[k].employee, .int .i64 l[k].period, .int .i64 l[k].line.kind, .string l[k].line.code, .int .i64 l[k].line.amount] 28)
      have hbelA := bel_alloc hbel (.cells #[.int .i64 l[k].run, .int .i64 l[k].employee, .int .i64 l[k].period, .int .i64 l[k].line.kind, .string l[k].line.code, .int .i64 l[k].line.amount] 28)
      go_wp2_with fail
      generalize wr.alloc (Obj.cells _ _) = W at hownA hbelA ⊢
      refine (entries_any A cap ws l[k] _ ((h.adv hbel2).adv hbelA) hl a1 a2).mono ?_
      rintro e w4 ⟨v4, rfl, hent, hb4⟩
      have hown4 := hownA.adv hb4
      have hbel4 := bel_adv hbelA hb4
      have hbs4 := hbel4.size
      have HT := Lib.hid (entAll_take ws l k hlt)
      have hel := entOf_len ws l[k]
      clear c0 c1 c2 c3 c4 c5 hownA hbelA hb4 hown hbel
      rcases hm : entMiss ws l[k] with _ | _
      · obtain ⟨A4, c4', rfl, hS4⟩ := hent hm
        have HN : Hid (∀ j, (hj : j < l.length) → j < k + 1 → entMiss ws l[j] = false) := by
          intro j hj hjk
          rcases Nat.lt_or_ge j k with h3 | h3
          · exact hall.out j hj h3
          · obtain rfl : j = k := by omega
            exact hm
        clear hent hm
        have hr7 := fun g hg => (hown4.block_lt (g := g) hg).1
        go_wp2_with (at_builtin; (refine wpList_append_list (ys := entOf ws l[k]) _ _ 32 _ 24 _ infoB Try.underlying32 hown4 hS4 encB_len (by omega) rfl encB_one (by omega) (by omega) hbs4 (by rfl) (by rfl) (by rfl) (by rfl) (by rfl) ?_); intro v6 w6 hown6 hg6)
        go_roundw
        case rel => exact ⟨k + 1, by omega, by go_num, HN, by rw [HT.out]; exact hown6, bel_only hbel4 hg6 hr7⟩
        case measure => simp [intOf]; omega
      · have HM2 := Lib.hid (HMI.out (List.any_eq_true.2 ⟨l[k], List.getElem_mem _, hm⟩))
        clear hent hm
        go_wp2
        go_ret2
        exact FAIL.out 16 _ (by omega) HM2.out (bel_adv hbel2 hbel4)
    · rw [List.take_of_length_le (by omega)] at hown hal
      have HM2 : Hid (eErr ws l = mErrB (entAll ws l)) := HOK.out (by
        rw [List.any_eq_false]
        intro x hx
        obtain ⟨j, hj, rfl⟩ := List.mem_iff_getElem.1 hx
        simp [hall.out j hj (by omega)])
      have HR2 := Lib.hid (eRes_m HM2.out)
      generalize entAll ws l = es at hown hal HM2 HR2
      obtain ⟨A5, c5', rfl, hS5, hB5, hlc5, hcm5⟩ := hown.form2 encB_len
      go_wp2_with fail
      refine (mergeB_any A5 c5' es _ hS5 (by omega)).mono ?_
      rintro e w7 ⟨A7, c7, rfl, hS7, hlc7, hcm7, hb7⟩
      go_wp2
      go_ret2
      rw [HM2.out, HR2.out]
      exact ⟨A7, c7, rfl, hS7, hlc7, hcm7, bel_adv hbel2 (bel_adv hbel hb7)⟩

end Go.Proofs.Ytbiajkknpkeeoaa
