/- Contract of payrollref27.Take: it hands back takeR and takeE. Conditions: as stated. -/
import Derived.Test.YtcpkdpflkjjlcaaTake
namespace Go.Proofs.Ytcpkdpflkjjlcaa
open Go.RowKit

/-- The slice out, as it stands between two rounds. -/
def SlE (wr : World) (v : Value) (m : List Elem) : Prop := ∃ A c, v = .slice A m.length c ∧ SliceOf encE 2 wr wr.heap.size A m ∧ m.length ≤ c ∧ c ≤ maxLen
theorem SlE.adv {w w' : World} {v : Value} {m : List Elem} (h : SlE w v m) (hb : Below w.heap.size w w') : SlE w' v m := by
  obtain ⟨A, c, h1, h2, h3, h4⟩ := h
  exact ⟨A, c, h1, h2.adv hb, h3, h4⟩
theorem SlE.nil_ (w : World) : SlE w (.slice none 0 0) [] := ⟨none, 0, rfl, SliceOf.nil_, by simp, by unfold maxLen; omega⟩
theorem Own.slE {w : World} {base : Nat} {e : TypeId} {v : Value} {m : List Elem} (h : Own encE 2 e w base v m) : SlE w v m := by
  obtain ⟨A, c, h1, h2, _, h3, h4⟩ := h.form2 encE_len
  exact ⟨A, c, h1, h2, h3, h4⟩

set_option maxRecDepth 100000 in
set_option maxHeartbeats 4000000 in
theorem take27_any (A Y : Option Addr) (cap ycap : Nat) (xs : List DedT) (year : List Elem) (before : Bool) (base avail : Int) (w : World) (h : SliceOf encD 6 w w.heap.size A xs) (hz : ∀ x ∈ xs, x.code.size ≤ maxLen) (hl : xs.length ≤ 9223372036854775807)
    (hy : SliceOf encE 2 w w.heap.size Y year) (hyz : ∀ x ∈ year, x.code.size ≤ maxLen) (hyl : year.length ≤ 9223372036854775807) :
    Calls Try.prog 26 #[.slice A xs.length cap, .bool before, .int .i64 base, .int .i64 avail, .slice Y year.length ycap] w (EPost (takeR xs before base avail year) (takeE xs base avail year) w) := by
  have HZ := Lib.hid hz; clear hz
  have HYZ := Lib.hid hyz; clear hyz
  have fail_ : ∀ (n : Int) (W : World), n ≠ 0 → takeE xs base avail year = n → Below w.heap.size w W → EPost (takeR xs before base avail year) (takeE xs base avail year) w (Ending.returned (.tuple #[.slice none 0 0, .int .i64 n])) W :=
    fun n W hn he hb => EPost.fail (takeR_no (by rw [he]; exact hn)) he hb
  have FAIL := Lib.hid fail_
  clear fail_
  go_enter Try.func26, Try.ntmps26
  go_wp2_with fail
  refine (valid27_any A cap xs _ h HZ.out hl).mono ?_
  rintro e w1 ⟨rfl, hb1⟩
  by_cases hv : validD xs = true
  rotate_left
  · have hv' : validD xs = false := by simpa using hv
    clear hv
    go_wp2
    go_ret2
    exact FAIL.out 1 _ (by omega) (takeE_1 (.inl hv')) hb1
  go_wp2_with fail
  refine (rec27_any Y ycap year _ (hy.adv hb1) HYZ.out hyl).mono ?_
  rintro e w2 ⟨rfl, hb2⟩
  have hbel2 := bel_adv hb1 hb2
  by_cases hr : recB year = true
  rotate_left
  · have hr' : recB year = false := by simpa using hr
    clear hr
    go_wp2
    go_ret2
    exact FAIL.out 1 _ (by omega) (takeE_1 (.inr hr')) hbel2
  by_cases i1 : inB base 1000000000 = true
  rotate_left
  · have i1' : inB base 1000000000 = false := by simpa using i1
    clear i1
    go_wp2_with (go_at_call 37; refine (in_any _ _ _).mono ?_; rintro e w' ⟨rfl, rfl⟩)
    go_ret2
    exact FAIL.out 2 _ (by omega) (takeE_2 hv hr (.inl i1')) hbel2
  by_cases i2 : inB avail 1000000000 = true
  rotate_left
  · have i2' : inB avail 1000000000 = false := by simpa using i2
    clear i2
    go_wp2_with (go_at_call 37; refine (in_any _ _ _).mono ?_; rintro e w' ⟨rfl, rfl⟩)
    go_ret2
    exact FAIL.out 2 _ (by omega) (takeE_2 hv hr (.inr i2')) hbel2
  have hE := takeE_0 hv hr i1 i2
  have HE := Lib.hid hE
  have HR := Lib.hid (takeR_ok (before := before) hE)
  have a1 := inB_lo i1
  have a2 := inB_hi i1
  have a3 := inB_lo i2
  have a4 := inB_hi i2
  clear hE FAIL
  have hlen : xs.length ≤ 16 := (validD_iff.1 hv).1
  have hy128 : year.length ≤ 128 := (recB_iff.1 hr).1
  have HOK := Lib.hid (validD_iff.1 hv).2.1
  have HYB := Lib.hid (fun c => year_at hr c)
  have hD2 := h.adv hbel2
  have hY2 := hy.adv hbel2
  go_wp2_with (go_at_call 37; refine (in_any _ _ _).mono ?_; rintro e w' ⟨rfl, rfl⟩)
  clear hv hr i1 i2 hb1 hb2 h hy hl hyl
  go_loopw [12, 3, 13] (fun v l i wr => ∃ r : Nat, r ≤ 100 ∧ i = .int .i64 r ∧ l = .int .i64 (rst before base year (ranks xs r) avail) ∧ SlE wr v (sumsP (tk before base year (ranks xs r) avail)) ∧ Below w2.heap.size w2 wr) (fun _ _ i _ => 100 - (intOf i).toNat)
  case atStart => exact ⟨0, by omega, rfl, rfl, SlE.nil_ _, Below.refl _ _⟩
  case round =>
    obtain ⟨r, hr, rfl, rfl, hsl, hbel⟩ := hrel
    by_cases hr1 : r < 100
    · have hr99 : decide ((r : Int) ≤ 99) = true := by simp; omega
      obtain ⟨wo, rfl⟩ : ∃ wo : World, wo = wr := ⟨_, rfl⟩
      rw [← pre_zero xs r] at hsl ⊢
      go_wp2_with fail
      go_loopw [12, 3, 14] (fun v l i wr => ∃ k : Nat, k ≤ xs.length ∧ i = .int .i64 k ∧ l = .int .i64 (rst before base year (pre xs r k) avail) ∧ SlE wr v (sumsP (tk before base year (pre xs r k) avail)) ∧ Below w2.heap.size w2 wr) (fun _ _ i _ => xs.length - (intOf i).toNat)
      case atStart => exact ⟨0, by omega, rfl, rfl, hsl, hbel⟩
      case round =>
        clear hsl hbel
        obtain ⟨k, hk, rfl, rfl, hsl, hbel⟩ := hrel
        have hbs := hbel.size
        have hpok : ∀ x ∈ pre xs r k, DedOk x := fun x hx => HOK.out x (mem_pre hx)
        have hr0 := rst_bd (before := before) (year := year) hpok a1 a2 avail a3
        have HPB := Lib.hid (taken_bd hpok before year a1 a2 a3)
        have hpl := Nat.le_trans (taken_len (pre xs r k) before base year avail) (pre_len xs hlen r k)
        clear hpok
        by_cases hlt : k < xs.length
        · obtain ⟨b, off, rfl, hb, hc⟩ := (hD2.adv hbel).at_ hlt
          have c0 := hc 0 _ rfl
          have c1 := hc 1 _ rfl
          have c2 := hc 2 _ rfl
          have c3 := hc 3 _ rfl
          have c4 := hc 4 _ rfl
          have c5 := hc 5 _ rfl
          simp only [Nat.add_zero] at c0
          clear hc
          have hokk := HOK.out _ (List.getElem_mem hlt)
          have hzk := HZ.out _ (List.getElem_mem hlt)
          generalize hl0 : rst before base year (pre xs r k) avail = l0 at hr0
          have HL0 := Lib.hid hl0
          clear hl0
          obtain ⟨r1, r2⟩ := hr0
          by_cases hrk : xs[k].rank = (r : Int)
          rotate_left
          · have hrk' : (xs[k].rank == (r : Int)) = false := by simpa using hrk
            have hrk2 : (xs[k].rank != (r : Int)) = true := by simpa using hrk
            have HT := Lib.hid (pre_no xs r k hlt hrk)
            clear hrk
            go_wp2
            go_roundw
            case rel => exact ⟨k + 1, by omega, by go_num, by rw [HT.out, HL0.out], by rw [HT.out]; exact hsl, hbel⟩
            case measure => simp [intOf]; omega
          have hrk' : (xs[k].rank == (r : Int)) = true := by simpa using hrk
          have hrk2 : (xs[k].rank != (r : Int)) = false := by simpa using hrk
          have HT := Lib.hid (pre_yes xs r k hlt hrk)
          clear hrk
          by_cases hbe : xs[k].before = before
          rotate_left
          · have hbe' : (xs[k].before == before) = false := by simpa using hbe
            have HST := Lib.hid (step_no (P := pre xs r k) HL0.out (amtT_other (base := base) (year := year) (l0 := l0) hbe))
            clear hbe
            go_wp2
            go_roundw
            case rel => exact ⟨k + 1, by omega, by go_num, by rw [HT.out, HST.out.2], by rw [HT.out, HST.out.1]; exact hsl, hbel⟩
            case measure => simp [intOf]; omega
          · have hbe' : (xs[k].before == before) = true := by simpa using hbe
            have HBE := Lib.hid hbe
            clear hbe
            obtain ⟨t1, t2⟩ := HYB.out xs[k].code
            obtain ⟨q1, q2⟩ := wantN_bd (taken := atE year xs[k].code) hokk a1 a2
            go_wp2_with fail
            have hYW := hY2.adv hbel
            have e0 := Bw.cell (w := wr) (a := ⟨b, off + k * 6, none⟩) (by exact hb) c0
            have e1 := Bw.cell (w := wr) (a := ⟨b, off + k * 6 + 1, none⟩) (by exact hb) c1
            have e2 := Bw.cell (w := wr) (a := ⟨b, off + k * 6 + 2, none⟩) (by exact hb) c2
            have e3 := Bw.cell (w := wr) (a := ⟨b, off + k * 6 + 3, none⟩) (by exact hb) c3
            have e4 := Bw.cell (w := wr) (a := ⟨b, off + k * 6 + 4, none⟩) (by exact hb) c4
            have e5 := Bw.cell (w := wr) (a := ⟨b, off + k * 6 + 5, none⟩) (by exact hb) c5
            refine wp_region_below (by kernel_rfl) (by kernel_rfl) ?_
            repeat (first | go_big_quiet_step ((first | exact Bw.call_same _ (at26_any Y ycap year _ _ _ (hYW.adv (Bw.h _)) (by omega)) | exact Bw.call _ (wanted27_ok xs[k] base (atE year xs[k].code) _ hzk hokk a1 a2 t1 t2))) | quiet_step ((first | exact Bw.call_same _ (at26_any Y ycap year _ _ _ (hYW.adv (Bw.h _)) (by omega)) | exact Bw.call _ (wanted27_ok xs[k] base (atE year xs[k].code) _ hzk hokk a1 a2 t1 t2))))
            refine wpQuiet_nil ?_
            intro W2 hw'
            obtain ⟨⟨W9, hW2⟩, hw''⟩ := hw'
            subst hw''
            have hsl2 := hsl.adv hW2
            have hbel2' := bel_adv hbel hW2
            have z0 := (hW2.cell (p := ⟨b, off + k * 6, none⟩) hb).trans c0
            have hb2' : b < W2.heap.size := Nat.lt_of_lt_of_le hb hW2.size
            clear e0 e1 e2 e3 e4 e5 hYW hbel hsl c0 c1 c2 c3 c4 c5 hW2
            generalize hwn : wantN xs[k] base (atE year xs[k].code) = wn at q1 q2 ⊢
            have HWN := Lib.hid hwn
            clear hwn
            have HA : Hid (amtT before base year xs[k] l0 = min wn l0) := by rw [Hid, amtT, if_pos HBE.out, HWN.out]
            have hm1 : min wn l0 ≤ l0 := by omega
            by_cases hpos : 0 < min wn l0
            · have HST := Lib.hid (step_yes (P := pre xs r k) HL0.out HA.out hpos)
              have HSN := Lib.hid (sumsP_snoc (tk before base year (pre xs r k) avail) ⟨xs[k].code, min wn l0⟩)
              generalize sumsP (tk before base year (pre xs r k) avail) = ms at hsl2 HPB hpl HSN
              obtain ⟨A5, c5, rfl, hS5, hlc5, hcm5⟩ := hsl2
              go_wp2_with fail
              refine (put_any A5 c5 ms ⟨xs[k].code, min wn l0⟩ _ hS5 hlc5 hcm5 (by omega) (fun x hx => by have := HPB.out x hx; omega) (by show _ ≤ min wn l0; omega) (by show min wn l0 ≤ _; omega)).mono ?_
              rintro e w8 ⟨v8, rfl, hown8, hb8⟩
              go_wp2
              go_roundw
              case rel =>
                have hf : ∃ k' : Nat, k' ≤ xs.length ∧ Value.int .i64 ((k : Int) + 1) = .int .i64 k' ∧ Value.int .i64 (l0 - min wn l0) = .int .i64 (rst before base year (pre xs r k') avail) ∧ SlE w8 v8 (sumsP (tk before base year (pre xs r k') avail)) ∧ Below w2.heap.size w2 w8 :=
                  ⟨k + 1, by omega, by go_num, by rw [HT.out, HST.out.2], by rw [HT.out, HST.out.1, HSN.out]; exact hown8.slE, bel_adv hbel2' hb8⟩
                first | exact hf | ((repeat apply Exists.intro); exact ⟨hf, rfl⟩)
              case measure => simp [intOf]; omega
            · have hA0 : amtT before base year xs[k] l0 = 0 := by rw [HA.out]; omega
              have HST := Lib.hid (step_no (P := pre xs r k) HL0.out hA0)
              clear hA0
              go_wp2
              go_roundw
              case rel => exact ⟨k + 1, by omega, by go_num, by rw [HT.out, HST.out.2]; congr 1; omega, by rw [HT.out, HST.out.1]; exact hsl2, hbel2'⟩
              case measure => simp [intOf]; omega
        · obtain rfl : k = xs.length := by omega
          have hg0 : decide ((xs.length : Int) < (xs.length : Int)) = false := by simp
          have hg1 : decide (xs.length < xs.length) = false := by simp
          rw [pre_end] at hsl ⊢
          go_wp2_with fail
          go_roundw
          case rel => exact ⟨r + 1, by omega, by go_num, rfl, hsl, hbel⟩
          case measure => simp [intOf]; omega
    · obtain rfl : r = 100 := by omega
      rw [ranks_100] at hsl ⊢
      obtain ⟨A5, c5, rfl, hS5, hlc5, hcm5⟩ := hsl
      have hx : decide ((100 : Int) ≤ 99) = false := by decide
      go_wp2
      go_ret2
      rw [HE.out, HR.out]
      exact ⟨A5, c5, rfl, hS5, hlc5, hcm5, bel_adv hbel2 hbel⟩

end Go.Proofs.Ytcpkdpflkjjlcaa
