/- Contract of deduction.Take: it hands back takeR and takeE. Conditions: as stated. -/
import Derived.Test.YtcpkdpflkjjlcaaDedW
import Derived.Test.YtcpkdpflkjjlcaaTakeP
import Derived.Test.YtcpkdpflkjjlcaaSortD
namespace Go.Proofs.Ytcpkdpflkjjlcaa
open Go.RowKit Go.Sort Go.Shelf

/-- A list of elements and an error number are handed back. -/
def EPost (m : List Elem) (er : Int) (w : World) (e : Ending) (w' : World) : Prop :=
  ∃ A cap, e = .returned (.tuple #[.slice A m.length cap, .int .i64 er]) ∧ SliceOf encE 2 w' w'.heap.size A m ∧ m.length ≤ cap ∧ cap ≤ maxLen ∧ Below w.heap.size w w'
theorem EPost.fail {m : List Elem} {er n : Int} {w W : World} (hm : m = []) (he : er = n) (hb : Below w.heap.size w W) : EPost m er w (Ending.returned (.tuple #[.slice none 0 0, .int .i64 n])) W := by
  subst hm he
  exact ⟨none, 0, rfl, SliceOf.nil_, by simp, by unfold maxLen; omega, hb⟩
theorem wanted_ok (d : DedT) (base taken : Int) (w : World) (hz : d.code.size ≤ maxLen) (hok : DedOk d) (h1 : 0 ≤ base) (h2 : base ≤ 1000000000) (h3 : 0 ≤ taken) (h4 : taken ≤ 1000000000000) :
    Calls Try.prog 21 #[.agg #[.string d.code, .int .i64 d.rank, .bool d.before, .int .i64 d.amount, .int .i64 d.rate, .int .i64 d.cap], .int .i64 base, .int .i64 taken] w fun e w' => e = .returned (.tuple #[.int .i64 (wantN d base taken), .int .i64 0]) ∧ Below w.heap.size w w' := by
  have hE := wantE_0 (validD_one.2 hok) (inB_iff.2 ⟨h1, h2⟩) (inB_iff.2 ⟨h3, h4⟩)
  refine (wanted_any d base taken w hz ⟨by omega, by omega⟩).mono fun e w' ⟨he, hb⟩ => ⟨?_, hb⟩
  rw [he, hE, wantR, if_pos hE]
theorem wanted27_ok (d : DedT) (base taken : Int) (w : World) (hz : d.code.size ≤ maxLen) (hok : DedOk d) (h1 : 0 ≤ base) (h2 : base ≤ 1000000000) (h3 : 0 ≤ taken) (h4 : taken ≤ 1000000000000) :
    Calls Try.prog 22 #[.agg #[.string d.code, .int .i64 d.rank, .bool d.before, .int .i64 d.amount, .int .i64 d.rate, .int .i64 d.cap], .int .i64 base, .int .i64 taken] w fun e w' => e = .returned (.tuple #[.int .i64 (wantN d base taken), .int .i64 0]) ∧ Below w.heap.size w w' := by
  have hE := wantE_0 (validD_one.2 hok) (inB_iff.2 ⟨h1, h2⟩) (inB_iff.2 ⟨h3, h4⟩)
  refine (wanted27_any d base taken w hz ⟨by omega, by omega⟩).mono fun e w' ⟨he, hb⟩ => ⟨?_, hb⟩
  rw [he, hE, wantR, if_pos hE]

set_option maxRecDepth 100000 in
set_option maxHeartbeats 4000000 in
theorem take_any (A Y : Option Addr) (cap ycap : Nat) (xs : List DedT) (year : List Elem) (before : Bool) (base avail : Int) (w : World) (h : SliceOf encD 6 w w.heap.size A xs) (hz : ∀ x ∈ xs, x.code.size ≤ maxLen) (hl : xs.length ≤ 9223372036854775807)
    (hy : SliceOf encE 2 w w.heap.size Y year) (hyz : ∀ x ∈ year, x.code.size ≤ maxLen) (hyl : year.length ≤ 9223372036854775807) :
    Calls Try.prog 25 #[.slice A xs.length cap, .bool before, .int .i64 base, .int .i64 avail, .slice Y year.length ycap] w (EPost (takeR xs before base avail year) (takeE xs base avail year) w) := by
  have HZ := Lib.hid hz; clear hz
  have HYZ := Lib.hid hyz; clear hyz
  have fail_ : ∀ (n : Int) (W : World), n ≠ 0 → takeE xs base avail year = n → Below w.heap.size w W → EPost (takeR xs before base avail year) (takeE xs base avail year) w (Ending.returned (.tuple #[.slice none 0 0, .int .i64 n])) W :=
    fun n W hn he hb => EPost.fail (takeR_no (by rw [he]; exact hn)) he hb
  have FAIL := Lib.hid fail_
  clear fail_
  go_enter Try.func25, Try.ntmps25
  go_wp2_with fail
  refine (validD_any A cap xs _ h HZ.out hl).mono ?_
  rintro e w1 ⟨rfl, hb1⟩
  by_cases hv : validD xs = true
  rotate_left
  · have hv' : validD xs = false := by simpa using hv
    clear hv
    go_wp2
    go_ret2
    exact FAIL.out 1 _ (by omega) (takeE_1 (.inl hv')) hb1
  go_wp2_with fail
  refine (rec_any Y ycap year _ (hy.adv hb1) HYZ.out hyl).mono ?_
  rintro e w2 ⟨rfl, hb2⟩
  have hbel2 := bel_adv hb1 hb2
  by_cases hr : recB year = true
  rotate_left
  · have hr' : recB year = false := by simpa using hr
    clear hr
    go_wp2
    go_ret2
    exact FAIL.out 1 _ (by omega) (takeE_1 (.inr hr')) hbel2
  by_cases a1 : 0 ≤ base
  rotate_left
  · go_wp2
    go_ret2
    exact FAIL.out 2 _ (by omega) (takeE_2 hv hr (.inl (inB_no.2 (.inl (by omega))))) hbel2
  by_cases a2 : base ≤ 1000000000
  rotate_left
  · go_wp2
    go_ret2
    exact FAIL.out 2 _ (by omega) (takeE_2 hv hr (.inl (inB_no.2 (.inr (by omega))))) hbel2
  by_cases a3 : 0 ≤ avail
  rotate_left
  · go_wp2
    go_ret2
    exact FAIL.out 2 _ (by omega) (takeE_2 hv hr (.inr (inB_no.2 (.inl (by omega))))) hbel2
  by_cases a4 : avail ≤ 1000000000
  rotate_left
  · go_wp2
    go_ret2
    exact FAIL.out 2 _ (by omega) (takeE_2 hv hr (.inr (inB_no.2 (.inr (by omega))))) hbel2
  have hE := takeE_0 hv hr (inB_iff.2 ⟨a1, a2⟩) (inB_iff.2 ⟨a3, a4⟩)
  have HE := Lib.hid hE
  have HR := Lib.hid (takeR_ok (before := before) hE)
  clear hE FAIL
  have hlen : xs.length ≤ 16 := (validD_iff.1 hv).1
  have hy128 : year.length ≤ 128 := (recB_iff.1 hr).1
  go_wp2_with fail
  refine (clone_any A cap xs _ (h.adv hbel2) (by omega)).mono ?_
  rintro e w3 ⟨v3, rfl, hown3, hb3⟩
  have hbel3 := bel_adv hbel2 hb3
  obtain ⟨A3, c3, rfl, hS3, hB3, hlc3, hcm3⟩ := hown3.form2 encD_len
  go_wp2_with fail
  refine (sortD_any A3 c3 w2.heap.size xs _ hown3 (by omega)).mono ?_
  rintro e w4 ⟨rfl, ys, hp, hsd, hS4, hb4⟩
  have hbel4 : Below w.heap.size w w4 := hbel3.trans (hb4.mono hbel2.size)
  have hys := ordD_eq hv hp (hsd.imp (fun h => of_decide_eq_false h))
  have hyl2 := hp.length_eq
  have hok : ∀ x ∈ ys, DedOk x := fun x hx => (validD_iff.1 hv).2.1 x (hp.mem_iff.1 hx)
  have hyz2 : ∀ x ∈ ys, x.code.size ≤ maxLen := fun x hx => HZ.out x (hp.mem_iff.1 hx)
  have hcode : ys.Pairwise (fun a b => a.code ≠ b.code) := by rw [hys]; exact ordD_code hv
  rw [← hys] at HR
  have HOK := Lib.hid hok
  have HYZ2 := Lib.hid hyz2
  have HCODE := Lib.hid hcode
  have HLEN := Lib.hid hyl2
  have hle : ys.length ≤ 16 := by omega
  have hY4 := hy.adv hbel4
  have hyb := fun c => year_at hr c
  have HYB := Lib.hid hyb
  clear hok hyz2 hcode hys hp hsd hS3 hB3 hown3 hb3 hb4 hb1 hb2 hyb hyl2
  have hD4 : SliceOf encD 6 w4 w4.heap.size A3 ys := hS4
  clear hS4
  obtain ⟨n, hn⟩ : ∃ n, n = xs.length := ⟨_, rfl⟩
  have hn1 : n ≤ ys.length := by have := HLEN.out; omega
  have hn2 : ys.length ≤ n := by have := HLEN.out; omega
  rw [← hn]
  clear HLEN HZ h hv hr hlen hlc3 hl
  generalize xs.length = n0 at hn
  clear hn
  go_wp2_with fail
  go_loopw [13, 14, 49] (fun v l i wr => ∃ k : Nat, k ≤ ys.length ∧ i = .int .i64 k ∧ l = .int .i64 (rst before base year (ys.take k) avail) ∧ Own encE 2 60 wr w4.heap.size v (tk before base year (ys.take k) avail) ∧ Below w4.heap.size w4 wr) (fun _ _ i _ => ys.length - (intOf i).toNat)
  case atStart => exact ⟨0, by omega, rfl, rfl, Own.nil_ _ _, Below.refl _ _⟩
  case round =>
    obtain ⟨k, hk, rfl, rfl, hown, hbel⟩ := hrel
    have hbs := hbel.size
    have hr0 := rst_bd (before := before) (year := year) (P := ys.take k) (fun x hx => HOK.out x (List.mem_of_mem_take hx)) a1 a2 avail a3
    by_cases hlt : k < ys.length
    · have hltn : k < n := by omega
      obtain ⟨b, off, rfl, hb, hc⟩ := (hD4.adv hbel).at_ hlt
      have c0 := hc 0 _ rfl
      have c1 := hc 1 _ rfl
      have c2 := hc 2 _ rfl
      have c3 := hc 3 _ rfl
      have c4 := hc 4 _ rfl
      have c5 := hc 5 _ rfl
      simp only [Nat.add_zero] at c0
      clear hc
      have HT : Hid (ys.take (k + 1) = ys.take k ++ [ys[k]]) := List.take_succ_eq_append_getElem hlt
      have hokk := HOK.out _ (List.getElem_mem hlt)
      have hzk := HYZ2.out _ (List.getElem_mem hlt)
      generalize hl0 : rst before base year (ys.take k) avail = l0 at hr0
      have HL0 := Lib.hid hl0
      clear hl0
      obtain ⟨r1, r2⟩ := hr0
      have hlen6 : (tk before base year (ys.take k) avail).length ≤ 16 := Nat.le_trans (tk_length _ _) (by simp; omega)
      by_cases hbe : ys[k].before = before
      rotate_left
      · have hbe' : (ys[k].before == before) = false := by simpa using hbe
        have HST := Lib.hid (step_no (P := ys.take k) HL0.out (amtT_other (base := base) (year := year) (l0 := l0) hbe))
        clear hbe
        go_wp2
        go_roundw
        case rel => exact ⟨k + 1, by omega, by go_num, by rw [HT.out, HST.out.2], by rw [HT.out, HST.out.1]; exact hown.alloc _, hbel.alloc hbs _⟩
        case measure => simp [intOf]; omega
      · have hbe' : (ys[k].before == before) = true := by simpa using hbe
        have HBE := Lib.hid hbe
        clear hbe
        obtain ⟨t1, t2⟩ := HYB.out ys[k].code
        obtain ⟨q1, q2⟩ := wantN_bd (taken := atE year ys[k].code) hokk a1 a2
        go_wp2_with fail
        have hWB := Blk.new wr 33 #[.string ys[k].code, .int .i64 ys[k].rank, .bool ys[k].before, .int .i64 ys[k].amount, .int .i64 ys[k].rate, .int .i64 ys[k].cap]
        have hWo := hown.alloc (.cells #[.string ys[k].code, .int .i64 ys[k].rank, .bool ys[k].before, .int .i64 ys[k].amount, .int .i64 ys[k].rate, .int .i64 ys[k].cap] 33)
        have hWb := bel_alloc hbel (.cells #[.string ys[k].code, .int .i64 ys[k].rank, .bool ys[k].before, .int .i64 ys[k].amount, .int .i64 ys[k].rate, .int .i64 ys[k].cap] 33)
        have hWl : (wr.alloc (Obj.cells #[.string ys[k].code, .int .i64 ys[k].rank, .bool ys[k].before, .int .i64 ys[k].amount, .int .i64 ys[k].rate, .int .i64 ys[k].cap] 33)).heap.size = wr.heap.size + 1 := by simp
        generalize wr.alloc (Obj.cells _ _) = W at hWl hWb hWB hWo ⊢
        have hYW := hY4.adv hWb
        have hWlt : wr.heap.size < W.heap.size := by omega
        clear hWl c0 c1 c2 c3 c4 c5
        have e0 := Bw.cell (w := W) (a := ⟨wr.heap.size, 0, none⟩) (by exact hWlt) (hWB.cell 0)
        have e1 := Bw.cell (w := W) (a := ⟨wr.heap.size, 1, none⟩) (by exact hWlt) (hWB.cell 1)
        have e2 := Bw.cell (w := W) (a := ⟨wr.heap.size, 2, none⟩) (by exact hWlt) (hWB.cell 2)
        have e3 := Bw.cell (w := W) (a := ⟨wr.heap.size, 3, none⟩) (by exact hWlt) (hWB.cell 3)
        have e4 := Bw.cell (w := W) (a := ⟨wr.heap.size, 4, none⟩) (by exact hWlt) (hWB.cell 4)
        have e5 := Bw.cell (w := W) (a := ⟨wr.heap.size, 5, none⟩) (by exact hWlt) (hWB.cell 5)
        refine wp_region_below (by kernel_rfl) (by kernel_rfl) ?_
        repeat (first | go_big_quiet_step ((first | exact Bw.call _ (amountOf_any Y ycap year _ _ (hYW.adv (Bw.h _)) (by omega)) | exact Bw.call _ (wanted_ok ys[k] base (atE year ys[k].code) _ hzk hokk a1 a2 t1 t2))) | quiet_step ((first | exact Bw.call _ (amountOf_any Y ycap year _ _ (hYW.adv (Bw.h _)) (by omega)) | exact Bw.call _ (wanted_ok ys[k] base (atE year ys[k].code) _ hzk hokk a1 a2 t1 t2))))
        refine wpQuiet_nil ?_
        intro W2 hw'
        obtain ⟨⟨W9, hW2⟩, hw''⟩ := hw'
        subst hw''
        have hB2 := hWB.adv hW2
        have hown2 := hWo.adv hW2
        have hbel2' := bel_adv hWb hW2
        have hl2 := hB2.lt
        have z0 := hB2.cell 0
        simp only [List.getElem?_toArray, List.getElem?_cons_zero] at z0
        clear hWB hWo hWb hW2 e0 e1 e2 e3 e4 e5 hYW hown hbel
        generalize hwn : wantN ys[k] base (atE year ys[k].code) = wn at q1 q2 ⊢
        have HWN := Lib.hid hwn
        clear hwn
        have hbs2 := hbel2'.size
        have hr7 := fun g hg => (hown2.block_lt (g := g) hg).1
        have HA : Hid (amtT before base year ys[k] l0 = min wn l0) := by rw [Hid, amtT, if_pos HBE.out, HWN.out]
        by_cases hpos : 0 < min wn l0
        · have HST := Lib.hid (step_yes (P := ys.take k) HL0.out HA.out hpos)
          have hm1 : min wn l0 ≤ l0 := by omega
          go_wp2_with (at_builtin; (refine wpList_append_one _ _ 23 ⟨ys[k].code, min wn l0⟩ _ 24 _ infoE Try.underlying23 hown2 encE_len (by omega) rfl (encE_one _) (by omega) (by omega) (by omega) (by rfl) (by rfl) (by rfl) (by rfl) (by simp) (by rfl) ?_); intro v8 w8 hown8 hg8)
          go_roundw
          case rel => exact ⟨k + 1, by omega, by go_num, by rw [HT.out, HST.out.2], by rw [HT.out, HST.out.1]; exact hown8, bel_only hbel2' hg8 hr7⟩
          case measure => simp [intOf]; omega
        · have hA0 : amtT before base year ys[k] l0 = 0 := by rw [HA.out]; omega
          have HST := Lib.hid (step_no (P := ys.take k) HL0.out hA0)
          clear hA0
          have hm1 : min wn l0 ≤ l0 := by omega
          go_wp2
          go_roundw
          case rel => exact ⟨k + 1, by omega, by go_num, by rw [HT.out, HST.out.2]; congr 1; omega, by rw [HT.out, HST.out.1]; exact hown2, hbel2'⟩
          case measure => simp [intOf]; omega
    · have hek : ys.take k = ys := List.take_of_length_le (by omega)
      rw [hek] at hown ⊢
      have hltn : ¬ k < n := by omega
      clear hek
      have hl16 : (tk before base year ys avail).length ≤ 16 := Nat.le_trans (tk_length _ _) (by omega)
      have htc := tk_code (before := before) (base := base) (year := year) HCODE.out avail
      generalize tk before base year ys avail = ts at hown HR hl16 htc
      have HTC := Lib.hid htc
      clear htc
      obtain ⟨A5, c5, rfl, hS5, hB5, hlc5, hcm5⟩ := hown.form2 encE_len
      go_wp2_with fail
      refine (sortE_any A5 c5 w4.heap.size ts _ hown (by omega)).mono ?_
      rintro e w6 ⟨rfl, zs, hp, hsd, hSz, hb6⟩
      have hlz := hp.length_eq
      have hzs : zs = sumsP ts := sumsP_eq hp (strict_of hsd (HTC.out.perm hp.symm (fun h e => h e.symm)))
      have HZS := Lib.hid hzs
      have HLZ := Lib.hid hlz
      clear hlz hzs hp hsd
      go_wp2
      go_ret2
      rw [HE.out, HR.out, ← HZS.out]
      refine ⟨A5, c5, by rw [HLZ.out]; rfl, hSz, by have := HLZ.out; omega, hcm5, bel_adv hbel4 (hbel.trans hb6)⟩

end Go.Proofs.Ytcpkdpflkjjlcaa
