/- The walks of DeductionTakes and DeductionAdds: they return true and turn nothing that was there. Conditions: as stated. -/
import Derived.Test.YtcpkdpflkjjlcaaTake2
import Derived.Test.YtcpkdpflkjjlcaaAddD
import Derived.Test.YtcpkdpflkjjlcaaAddD2
import Derived.Test.YtcpkdpflkjjlcaaAwake27
import Derived.Test.YtcpkdpflkjjlcaaGenE
namespace Go.Proofs.Ytcpkdpflkjjlcaa
open Go.RowKit

theorem same_self (A B : Option Addr) (c d : Nat) (xs : List Elem) (w : World) (hx : SliceOf encE 2 w w.heap.size A xs) (hy : SliceOf encE 2 w w.heap.size B xs) (hl : xs.length ≤ 9223372036854775807) :
    Calls Try.prog 27 #[.slice A xs.length c, .slice B xs.length d] w fun e w' => e = .returned (.bool true) ∧ ∃ q, w' = w.drewN q := by
  refine (same_any A B c d xs xs w _ hx hy hl hl).mono fun e w' ⟨he, hw⟩ => ⟨?_, hw⟩
  rw [he, sameB, decide_eq_true rfl]
theorem takeR_len (l : List DedT) (before : Bool) (base avail : Int) (year : List Elem) : (takeR l before base avail year).length ≤ 1600 := by
  unfold takeR
  split
  · rename_i h
    have hv : validD l = true := by
      cases hv : validD l
      · rw [takeE_1 (.inl hv)] at h; cases h
      · rfl
    exact Nat.le_trans (taken_len _ _ _ _ _) (ranks_len l (validD_iff.1 hv).1 100)
  · simp
theorem addR_len (a b : List Elem) : (addR a b).length ≤ 128 := by
  unfold addR
  split
  · rename_i h
    rw [addE_def] at h
    split at h
    · cases h
    · split at h
      · cases h
      · split at h
        · cases h
        · split at h
          · cases h
          · omega
  · simp

set_option maxRecDepth 100000 in
set_option maxHeartbeats 4000000 in
theorem takes_walk (I A Y : Option Addr) (icap cap ycap : Nat) (l : List Int) (xs : List DedT) (year : List Elem) (before : Bool) (base avail : Int) (w : World)
    (hI : SliceOf encI 1 w w.heap.size I l) (hIl : l.length ≤ 9223372036854775807) (hIb : ∀ x ∈ l, I64 x)
    (h : SliceOf encD 6 w w.heap.size A xs) (hz : ∀ x ∈ xs, x.code.size ≤ maxLen) (hl : xs.length ≤ 9223372036854775807)
    (hy : SliceOf encE 2 w w.heap.size Y year) (hyz : ∀ x ∈ year, x.code.size ≤ maxLen) (hyl : year.length ≤ 9223372036854775807) :
    Calls Try.prog 5 #[.slice I l.length icap, .slice A xs.length cap, .slice Y year.length ycap, .bool before, .int .i64 base, .int .i64 avail] w fun e w' => e = .returned (.bool true) ∧ Below w.heap.size w w' := by
  have HZ := Lib.hid hz; clear hz
  have HYZ := Lib.hid hyz; clear hyz
  by_cases hsh : shortDB xs = true
  rotate_left
  · have hsh' : shortDB xs = false := by simpa using hsh
    clear hsh
    go_enter Try.func5, Try.ntmps5
    go_wp2_with (go_at_call 9; refine (shortD_any A cap xs _ _ h hl).mono ?_; rintro e w' ⟨rfl, rfl⟩)
    refine (awake_any _).mono ?_
    rintro e w5 ⟨rfl, hb5⟩
    go_wp2
    go_ret
    exact ⟨rfl, hb5⟩
  by_cases hse : shortEB year = true
  rotate_left
  · have hse' : shortEB year = false := by simpa using hse
    clear hse
    go_enter Try.func5, Try.ntmps5
    go_wp2_with (first | (go_at_call 9; refine (shortD_any A cap xs _ _ h hl).mono ?_; rintro e w' ⟨rfl, rfl⟩) | (go_at_call 10; refine (shortE_any Y ycap year _ _ hy hyl).mono ?_; rintro e w' ⟨rfl, rfl⟩))
    refine (awake_any _).mono ?_
    rintro e w5 ⟨rfl, hb5⟩
    go_wp2
    go_ret
    exact ⟨rfl, hb5⟩
  have hlen : xs.length ≤ 20 := by simp [shortDB] at hsh; exact hsh.1
  have hylen : year.length ≤ 140 := by simp [shortEB] at hse; exact hse.1
  go_enter Try.func5, Try.ntmps5
  go_wp2_with (first | (go_at_call 9; refine (shortD_any A cap xs _ _ h hl).mono ?_; rintro e w' ⟨rfl, rfl⟩) | (go_at_call 10; refine (shortE_any Y ycap year _ _ hy hyl).mono ?_; rintro e w' ⟨rfl, rfl⟩))
  refine (new_any I l icap _ hI hIl hIb).mono ?_
  rintro e w1 ⟨rfl, hd1, hb1⟩
  have hlt1 := hd1.lt
  go_wp2_with fail
  refine (deductions_any w.heap.size 0 _ (by omega) hd1).mono ?_
  rintro e w2 ⟨v2, ds, rfl, hgd, hown2, hd2, hg2⟩
  go_wp2_with fail
  refine (record_any w.heap.size (0 + 32) _ (by omega) hd2).mono ?_
  rintro e w3 ⟨v3, rs, rfl, hgr, hown3, hd3, hg3⟩
  go_wp2_with fail
  refine (amount_any w.heap.size (0 + 32 + 16) _ (by omega) hd3).mono ?_
  rintro e w4 ⟨r4, rfl, ha4, hb4, hd4, hg4⟩
  go_wp2_with fail
  refine (amount_any w.heap.size (0 + 32 + 16 + 2) _ (by omega) hd4).mono ?_
  rintro e w5 ⟨r5, rfl, ha5, hb5, hd5, hg5⟩
  go_wp2_with fail
  refine (pick_new w.heap.size (0 + 32 + 16 + 2 + 2) w5 [0, 1, 100, 5000, r5] _ _ _ rfl rfl (by omega) hd5 (by simp) (by simp)).mono ?_
  rintro e w6 ⟨r6, rfl, hm6, hd6, hg6⟩
  have hG2 : w1.grownBy w6 (some w.heap.size) := only_trans (only_trans (only_trans (only_trans hg2 hg3) hg4) hg5) hg6
  have hbel6 : Below w.heap.size w w6 := bel_only hb1 hG2 (fun g e => by injection e; omega)
  have hown2' := hown2.kept (only_trans (only_trans (only_trans hg3 hg4) hg5) hg6) (by intro g e; injection e; omega)
  have hs2 := hg2.size
  have hown3' := hown3.kept (only_trans (only_trans hg4 hg5) hg6) (by intro g e; injection e; omega)
  obtain ⟨A2, c2, rfl, hS2, hB2, hlc2, hcm2⟩ := hown2'.form2 encD_len
  obtain ⟨A3, c3, rfl, hS3, hB3, hlc3, hcm3⟩ := hown3'.form2 encE_len
  have HDZ := Lib.hid hgd.size
  have HRZ := Lib.hid hgr.size
  have hdl := hgd.len
  have hrl := hgr.len
  have h6 := h.adv hbel6
  have hy6 := hy.adv hbel6
  have p1 := takeR_len ds before r4 r6 rs
  have p2 := takeR_len xs before base avail year
  clear hown2 hown3 hown2' hown3' hd1 hd2 hd3 hd4 hd5 hd6 hg2 hg3 hg4 hg5 hg6 hG2 hgd hgr hI hIb hB2 hB3 hm6 hsh hse hb1 h hy
  go_wp2_with fail
  refine (take_any A2 A3 c2 c3 ds rs before r4 r6 _ hS2 HDZ.out (by omega) hS3 HRZ.out (by omega)).mono ?_
  rintro e w7 ⟨A7, c7, rfl, hS7, hlc7, hcm7, hb7⟩
  go_wp2_with fail
  refine (take27_any A2 A3 c2 c3 ds rs before r4 r6 _ (hS2.adv hb7) HDZ.out (by omega) (hS3.adv hb7) HRZ.out (by omega)).mono ?_
  rintro e w8 ⟨A8, c8, rfl, hS8, hlc8, hcm8, hb8⟩
  go_wp2_with fail
  refine (take_any A Y cap ycap xs year before base avail _ ((h6.adv hb7).adv hb8) HZ.out (by omega) ((hy6.adv hb7).adv hb8) HYZ.out (by omega)).mono ?_
  rintro e w9 ⟨A9, c9, rfl, hS9, hlc9, hcm9, hb9⟩
  go_wp2_with fail
  refine (take27_any A Y cap ycap xs year before base avail _ (((h6.adv hb7).adv hb8).adv hb9) HZ.out (by omega) (((hy6.adv hb7).adv hb8).adv hb9) HYZ.out (by omega)).mono ?_
  rintro e w10 ⟨A10, c10, rfl, hS10, hlc10, hcm10, hb10⟩
  have hT7 := ((hS7.adv hb8).adv hb9).adv hb10
  have hT8 := (hS8.adv hb9).adv hb10
  have hT9 := hS9.adv hb10
  have hbel10 := bel_adv (bel_adv (bel_adv (bel_adv hbel6 hb7) hb8) hb9) hb10
  clear hS2 hS3 hS7 hS8 hS9 hb7 hb8 hb9 hb10 hbel6 h6 hy6
  go_wp2_with fail
  refine (same_self A7 A8 c7 c8 _ _ hT7 hT8 (by omega)).mono ?_
  rintro e w11 ⟨rfl, q6, rfl⟩
  go_wp2_with fail
  refine (same_self A9 A10 c9 c10 _ _ (hT9.advD q6) (hS10.advD q6) (by omega)).mono ?_
  rintro e w12 ⟨rfl, q7, rfl⟩
  go_wp2_with fail
  refine (awake_any _).mono ?_
  rintro e w13 ⟨rfl, hb13⟩
  go_wp2
  go_ret
  exact ⟨rfl, bel_adv (below_drewN hbel10 (q6 + q7)) hb13⟩

def adW : List WageT := [⟨⟨#[99, 108, 117, 98]⟩, 0, false, false, false, 0⟩, ⟨⟨#[110, 101, 119]⟩, 0, false, false, false, 0⟩]
def adC : Array Value := #[.string ⟨#[99, 108, 117, 98]⟩, .int .i64 0, .bool false, .bool false, .bool false, .int .i64 0, .string ⟨#[110, 101, 119]⟩, .int .i64 0, .bool false, .bool false, .bool false, .int .i64 0]
theorem adW_size {es : List Elem} (h : GenE adW es) : ∀ x ∈ es, x.code.size ≤ maxLen := by
  intro x hx
  obtain ⟨⟨y, hy, hc⟩, _⟩ := h x hx
  have : ∀ y ∈ adW, y.code.size ≤ 4 := by decide
  rw [hc]
  exact Nat.le_trans (this y hy) (by unfold maxLen; omega)
set_option maxRecDepth 100000 in
set_option maxHeartbeats 4000000 in
theorem adds_walk (A B I : Option Addr) (cap bcap icap : Nat) (xs ys : List Elem) (l : List Int) (w : World)
    (h : SliceOf encE 2 w w.heap.size A xs) (hz : ∀ x ∈ xs, x.code.size ≤ maxLen) (hl : xs.length ≤ 9223372036854775807)
    (hy : SliceOf encE 2 w w.heap.size B ys) (hyz : ∀ x ∈ ys, x.code.size ≤ maxLen) (hyl : ys.length ≤ 9223372036854775807)
    (hI : SliceOf encI 1 w w.heap.size I l) (hIl : l.length ≤ 9223372036854775807) (hIb : ∀ x ∈ l, I64 x) :
    Calls Try.prog 8 #[.slice A xs.length cap, .slice B ys.length bcap, .slice I l.length icap] w fun e w' => e = .returned (.bool true) ∧ Below w.heap.size w w' := by
  have HZ := Lib.hid hz; clear hz
  have HYZ := Lib.hid hyz; clear hyz
  by_cases hsh : shortEB xs = true
  rotate_left
  · have hsh' : shortEB xs = false := by simpa using hsh
    clear hsh
    go_enter Try.func8, Try.ntmps8
    go_wp2_with (go_at_call 10; refine (shortE_any A cap xs _ _ h hl).mono ?_; rintro e w' ⟨rfl, rfl⟩)
    refine (awake_any _).mono ?_
    rintro e w5 ⟨rfl, hb5⟩
    go_wp2
    go_ret
    exact ⟨rfl, hb5⟩
  go_enter Try.func8, Try.ntmps8
  go_wp2_with fail
  refine (shortE_any A cap xs _ _ h hl).mono ?_
  rintro e w' ⟨rfl, rfl⟩
  go_wp2_with fail
  refine (shortE_any B bcap ys _ _ hy hyl).mono ?_
  rintro e w' ⟨rfl, rfl⟩
  by_cases hse : shortEB ys = true
  rotate_left
  · have hse' : shortEB ys = false := by simpa using hse
    clear hse
    go_wp2_with fail
    refine (awake_any _).mono ?_
    rintro e w5 ⟨rfl, hb5⟩
    go_wp2
    go_ret
    exact ⟨rfl, hb5⟩
  have hlen : xs.length ≤ 140 := by simp [shortEB] at hsh; exact hsh.1
  have hylen : ys.length ≤ 140 := by simp [shortEB] at hse; exact hse.1
  go_wp2_with fail
  refine (new_any I l icap _ hI hIl hIb).mono ?_
  rintro e w1 ⟨rfl, hd1, hb1⟩
  have hlt1 := hd1.lt
  go_wp2_with fail
  refine (record_any w.heap.size 0 _ (by omega) hd1).mono ?_
  rintro e w3 ⟨v3, rs, rfl, hgr, hown3, hd3, hg3⟩
  have hs3 := hg3.size
  go_wp2_with fail
  have hN := SliceOf.new encW_len w3 adW adC 56 rfl
  have hcon := elements_any w.heap.size (0 + 16) (some ⟨w3.heap.size, 0, none⟩) adW 2 4 (w3.alloc (.cells adC 56)) (by omega) (by omega) (by omega) (hd3.alloc _) (hN.more (by simp)) (by intro a ha; injection ha with ha; subst ha; show w3.heap.size ≠ w.heap.size; omega) (by simp [adW])
  rw [show adC = #[.string ⟨#[99, 108, 117, 98]⟩, .int .i64 0, .bool false, .bool false, .bool false, .int .i64 0, .string ⟨#[110, 101, 119]⟩, .int .i64 0, .bool false, .bool false, .bool false, .int .i64 0] from rfl] at hcon
  have HC := Lib.hid hcon
  clear hcon hN
  refine Calls.mono HC.out ?_
  rintro e w4 ⟨v4, es, rfl, hge, hel, hown4, hd4, hg4⟩
  clear HC
  have hG : w3.grownBy w4 (some w.heap.size) := only_trans (only_alloc (only_refl _ _) _) hg4
  have hbel4 : Below w.heap.size w w4 := bel_only hb1 (only_trans hg3 hG) (fun g e => by injection e; omega)
  have hown3' := hown3.kept hG (by intro g e; injection e; omega)
  obtain ⟨A3, c3, rfl, hS3, hB3, hlc3, hcm3⟩ := hown3'.form2 encE_len
  obtain ⟨A4, c4, rfl, hS4, hB4, hlc4, hcm4⟩ := hown4.form2 encE_len
  have HRZ := Lib.hid hgr.size
  have HEZ := Lib.hid (adW_size hge)
  have hrl := hgr.len
  have h4 := h.adv hbel4
  have hy4 := hy.adv hbel4
  have p1 := addR_len xs ys
  have p2 := addR_len rs es
  clear hown3 hown3' hown4 hd1 hd3 hd4 hg3 hg4 hG hgr hge hI hIb hB3 hB4 hsh hse hb1 h hy
  go_wp2_with fail
  refine (add_any A B cap bcap xs ys _ h4 HZ.out (by omega) hy4 HYZ.out (by omega)).mono ?_
  rintro e w7 ⟨A7, c7, rfl, hS7, hlc7, hcm7, hb7⟩
  go_wp2_with fail
  refine (add27_any A B cap bcap xs ys _ (h4.adv hb7) HZ.out (by omega) (hy4.adv hb7) HYZ.out (by omega)).mono ?_
  rintro e w8 ⟨A8, c8, rfl, hS8, hlc8, hcm8, hb8⟩
  go_wp2_with fail
  refine (add_any A3 A4 c3 c4 rs es _ ((hS3.adv hb7).adv hb8) HRZ.out (by omega) ((hS4.adv hb7).adv hb8) HEZ.out (by omega)).mono ?_
  rintro e w9 ⟨A9, c9, rfl, hS9, hlc9, hcm9, hb9⟩
  go_wp2_with fail
  refine (add27_any A3 A4 c3 c4 rs es _ (((hS3.adv hb7).adv hb8).adv hb9) HRZ.out (by omega) (((hS4.adv hb7).adv hb8).adv hb9) HEZ.out (by omega)).mono ?_
  rintro e w10 ⟨A10, c10, rfl, hS10, hlc10, hcm10, hb10⟩
  have hT7 := ((hS7.adv hb8).adv hb9).adv hb10
  have hT8 := (hS8.adv hb9).adv hb10
  have hT9 := hS9.adv hb10
  have hbel10 := bel_adv (bel_adv (bel_adv (bel_adv hbel4 hb7) hb8) hb9) hb10
  clear hS3 hS4 hS7 hS8 hS9 hb7 hb8 hb9 hb10 hbel4 h4 hy4
  go_wp2_with fail
  refine (same_self A7 A8 c7 c8 _ _ hT7 hT8 (by omega)).mono ?_
  rintro e w11 ⟨rfl, q6, rfl⟩
  go_wp2_with fail
  refine (same_self A9 A10 c9 c10 _ _ (hT9.advD q6) (hS10.advD q6) (by omega)).mono ?_
  rintro e w12 ⟨rfl, q7, rfl⟩
  go_wp2_with fail
  refine (awake_any _).mono ?_
  rintro e w13 ⟨rfl, hb13⟩
  go_wp2
  go_ret
  exact ⟨rfl, bel_adv (below_drewN hbel10 (q6 + q7)) hb13⟩

end Go.Proofs.Ytcpkdpflkjjlcaa
