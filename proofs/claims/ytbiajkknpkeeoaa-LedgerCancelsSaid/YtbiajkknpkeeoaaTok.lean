/- Contracts of the functions on names: token.IsName and payrollref17.IsName both answer 'nameB'. Conditions: the string's length is at most the model's greatest. -/
import Derived.Test.YtbiajkknpkeeoaaRows
import Derived.Test.YtbiajkknpkeeoaaData
import Derived.WalkKit
import Derived.WalkSpells
import Derived.WalkLawsBesides
import Derived.Deep.QuietTactic
import Derived.BigQuiet
import Derived.Lib.Hide
import Derived.Lib.Strings
namespace Go.Proofs.Ytbiajkknpkeeoaa
open Go.RowKit

def lowB (n : Int) : Bool := decide (97 ≤ n ∧ n ≤ 122)
def digB (n : Int) : Bool := decide (48 ≤ n ∧ n ≤ 57)
def wcB (n : Int) : Bool := lowB n || digB n || (n == 95)
def wl (l : List UInt8) : Nat := if (l.head?.map fun c => lowB (c.toNat : Int)) = some true then (l.takeWhile fun c => wcB (c.toNat : Int)).length else 0
def kws : List (List UInt8) := [[97, 103, 114, 101, 101, 109, 101, 110, 116], [105, 110, 112, 117, 116], [112, 97, 115, 116], [115, 99, 97, 108, 101], [114, 117, 108, 101], [112, 97, 121], [102, 114, 111, 109], [114, 111, 117, 110, 100, 101, 100], [116, 111], [105, 102], [116, 104, 101, 110], [101, 108, 115, 101], [97, 110, 100], [111, 114], [110, 111, 116], [116, 114, 117, 101], [102, 97, 108, 115, 101], [109, 105, 110], [109, 97, 120], [114, 111, 117, 110, 100], [97, 118, 101, 114, 97, 103, 101], [108, 97, 115, 116], [109, 111, 110, 101, 121], [104, 111, 117, 114, 115], [100, 97, 121, 115], [110, 117, 109, 98, 101, 114], [98, 111, 111, 108], [100, 111, 119, 110], [117, 112], [102, 108, 111, 111, 114], [99, 101, 105, 108, 105, 110, 103], [104, 97, 108, 102, 95, 117, 112], [104, 97, 108, 102, 95, 100, 111, 119, 110], [104, 97, 108, 102, 95, 101, 118, 101, 110]]
def kwB (s : ByteArray) : Bool := kws.any fun k => s.toList == k
def nameB (s : ByteArray) : Bool := decide (0 < s.size ∧ s.size ≤ 24) && (wl s.data.toList == s.size) && !kwB s

theorem wl_none (l : List UInt8) (h : ∀ c, l.head? = some c → lowB (c.toNat : Int) = false) : wl l = 0 := by
  unfold wl
  cases hh : l.head? with
  | none => simp
  | some c => simp [h c hh]

theorem takeWhile_len {α : Type} (p : α → Bool) : ∀ (l : List α) (k : Nat), k ≤ l.length → (∀ i (h : i < l.length), i < k → p l[i] = true) → (∀ h : k < l.length, p l[k] = false) → (l.takeWhile p).length = k := by
  intro l
  induction l with
  | nil => intro k hk _ _; simp at hk; simp [hk]
  | cons a l ih =>
    intro k hk h1 h2
    cases k with
    | zero => have := h2 (by simp); simp at this; simp [this]
    | succ k =>
      have ha := h1 0 (by simp) (by omega)
      simp at ha
      rw [List.takeWhile_cons, if_pos ha, List.length_cons]
      rw [ih k (by simp at hk; omega) (fun i hi hik => by have := h1 (i + 1) (by simp; omega) (by omega); simpa using this) (fun h => by have := h2 (by simp; omega); simpa using this)]

theorem wl_of (s : ByteArray) (k : Nat) (hk : k ≤ s.size) (h0 : ∀ h : 0 < s.size, lowB (s[0].toNat : Int) = true) (hs : 0 < s.size)
    (h1 : ∀ i (h : i < s.size), i < k → wcB (s[i].toNat : Int) = true) (h2 : ∀ h : k < s.size, wcB (s[k].toNat : Int) = false) : wl s.data.toList = k := by
  unfold wl
  have hh : s.data.toList.head? = some s[0] := by
    rw [List.head?_eq_getElem?, List.getElem?_eq_getElem (by simpa using hs)]
    rfl
  rw [hh]
  simp only [Option.map_some, h0 hs, if_pos]
  exact takeWhile_len _ _ k (by simpa using hk) (fun i hi hik => h1 i (by simpa using hi) hik) (fun h => h2 (by simpa using h))

section
set_option maxHeartbeats 400000
theorem isLower_any (n : Int) (w : World) :
    Calls Try.prog 80 #[.int .u8 n] w fun e w' => e = .returned (.bool (lowB n)) ∧ w = w' := by
  by_cases h1 : 97 ≤ n <;> by_cases h2 : n ≤ 122
  all_goals
    have hb : lowB n = (decide (97 ≤ n) && decide (n ≤ 122)) := by simp [lowB]
    have HB := Lib.hid hb; clear hb
    go_enter Try.func80, Try.ntmps80
    go_wp2
    go_ret
    exact ⟨by rw [HB.out]; simp [h1, h2], rfl⟩
theorem isDigit_any (n : Int) (w : World) :
    Calls Try.prog 81 #[.int .u8 n] w fun e w' => e = .returned (.bool (digB n)) ∧ w = w' := by
  by_cases h1 : 48 ≤ n <;> by_cases h2 : n ≤ 57
  all_goals
    have hb : digB n = (decide (48 ≤ n) && decide (n ≤ 57)) := by simp [digB]
    have HB := Lib.hid hb; clear hb
    go_enter Try.func81, Try.ntmps81
    go_wp2
    go_ret
    exact ⟨by rw [HB.out]; simp [h1, h2], rfl⟩
theorem lower_any (n : Int) (w : World) :
    Calls Try.prog 83 #[.int .u8 n] w fun e w' => e = .returned (.bool (lowB n)) ∧ w = w' := by
  by_cases h1 : 97 ≤ n <;> by_cases h2 : n ≤ 122
  all_goals
    have hb : lowB n = (decide (97 ≤ n) && decide (n ≤ 122)) := by simp [lowB]
    have HB := Lib.hid hb; clear hb
    go_enter Try.func83, Try.ntmps83
    go_wp2
    go_ret
    exact ⟨by rw [HB.out]; simp [h1, h2], rfl⟩
theorem digit_any (n : Int) (w : World) :
    Calls Try.prog 84 #[.int .u8 n] w fun e w' => e = .returned (.bool (digB n)) ∧ w = w' := by
  by_cases h1 : 48 ≤ n <;> by_cases h2 : n ≤ 57
  all_goals
    have hb : digB n = (decide (48 ≤ n) && decide (n ≤ 57)) := by simp [digB]
    have HB := Lib.hid hb; clear hb
    go_enter Try.func84, Try.ntmps84
    go_wp2
    go_ret
    exact ⟨by rw [HB.out]; simp [h1, h2], rfl⟩
end

theorem toList_ne (s : ByteArray) (h : 0 < s.size) : ¬ s.toList = [] := by
  rw [ByteArray.toList_eq]; intro e
  have : s.data.toList.length = 0 := by rw [e]; rfl
  have h2 : s.size = s.data.toList.length := by simp
  omega
theorem toList_emp (s : ByteArray) (h : ¬ 0 < s.size) : s.toList = [] := by
  rw [ByteArray.toList_eq]
  have h2 : s.size = s.data.toList.length := by simp
  exact List.eq_nil_of_length_eq_zero (by omega)
theorem isEmpty_ne (s : ByteArray) (h : 0 < s.size) : s.toList.isEmpty = false := by
  have := toList_ne s h
  cases hh : s.toList with
  | nil => exact absurd hh this
  | cons => rfl

set_option maxHeartbeats 2000000 in
theorem wordLength_any (s : ByteArray) (w : World) (hs : s.size ≤ maxLen) :
    Calls Try.prog 63 #[.string s] w fun e w' => e = .returned (.int .i64 (wl s.data.toList)) ∧ w = w' := by
  have hs' : s.size ≤ 9223372036854775807 := hs
  clear hs
  by_cases hpos : 0 < s.size
  · have hne := toList_ne s hpos
    have hem := isEmpty_ne s hpos
    by_cases hl : lowB (s[0].toNat : Int) = true
    · have HL := Lib.hid hl
      go_enter Try.func63, Try.ntmps63
      go_wp2_with (go_at_call 80; refine (isLower_any _ _).mono ?_; rintro e w' ⟨rfl, rfl⟩)
      go_loop [3] (fun i => ∃ k : Nat, 1 ≤ k ∧ k ≤ s.size ∧ i = .int .i64 k ∧ Hid (∀ i (h : i < s.size), i < k → wcB (s[i].toNat : Int) = true)) (fun i => s.size - (intOf i).toNat)
      case atStart => exact ⟨1, by omega, by omega, rfl, fun i h h1 => by
        obtain rfl : i = 0 := by omega
        simp [wcB, hl]⟩
      case round =>
        obtain ⟨k, hk1, hk, rfl, hall⟩ := hrel
        clear hl hne hem
        by_cases hlt : k < s.size
        · by_cases q1 : lowB (s[k].toNat : Int) = true
          · go_wp2_with (first | (go_at_call 80; refine (isLower_any _ _).mono ?_; rintro e w' ⟨rfl, rfl⟩) | (go_at_call 81; refine (isDigit_any _ _).mono ?_; rintro e w' ⟨rfl, rfl⟩))
            go_round
            case rel => exact ⟨k + 1, by omega, by omega, by go_num, fun i h hi => by
              rcases Nat.lt_or_ge i k with h1 | h1
              · exact hall.out i h h1
              · obtain rfl : i = k := by omega
                simp [wcB, q1]⟩
            case measure => simp [intOf]; omega
          · have q1' : lowB (s[k].toNat : Int) = false := by simpa using q1
            clear q1
            by_cases q2 : digB (s[k].toNat : Int) = true
            · go_wp2_with (first | (go_at_call 80; refine (isLower_any _ _).mono ?_; rintro e w' ⟨rfl, rfl⟩) | (go_at_call 81; refine (isDigit_any _ _).mono ?_; rintro e w' ⟨rfl, rfl⟩))
              go_round
              case rel => exact ⟨k + 1, by omega, by omega, by go_num, fun i h hi => by
                rcases Nat.lt_or_ge i k with h1 | h1
                · exact hall.out i h h1
                · obtain rfl : i = k := by omega
                  simp [wcB, q2]⟩
              case measure => simp [intOf]; omega
            · have q2' : digB (s[k].toNat : Int) = false := by simpa using q2
              clear q2
              by_cases q3 : ((s[k].toNat : Int) == 95) = true
              · go_wp2_with (first | (go_at_call 80; refine (isLower_any _ _).mono ?_; rintro e w' ⟨rfl, rfl⟩) | (go_at_call 81; refine (isDigit_any _ _).mono ?_; rintro e w' ⟨rfl, rfl⟩))
                go_round
                case rel => exact ⟨k + 1, by omega, by omega, by go_num, fun i h hi => by
                  rcases Nat.lt_or_ge i k with h1 | h1
                  · exact hall.out i h h1
                  · obtain rfl : i = k := by omega
                    simp only [wcB, q3, Bool.or_true]⟩
                case measure => simp [intOf]; omega
              · have q3' : ((s[k].toNat : Int) == 95) = false := by simpa using q3
                clear q3
                go_wp2_with (first | (go_at_call 80; refine (isLower_any _ _).mono ?_; rintro e w' ⟨rfl, rfl⟩) | (go_at_call 81; refine (isDigit_any _ _).mono ?_; rintro e w' ⟨rfl, rfl⟩))
                go_ret
                rw [wl_of s k hk (fun _ => HL.out) hpos hall.out (fun _ => by simp only [wcB, q1', q2', q3', Bool.or_self])]
                exact ⟨rfl, rfl⟩
        · go_wp2_with fail
          go_ret
          rw [wl_of s k hk (fun _ => HL.out) hpos hall.out (fun h => absurd h hlt)]
          exact ⟨rfl, rfl⟩
    · have hl' : lowB (s[0].toNat : Int) = false := by simpa using hl
      have hwl : wl s.data.toList = 0 := by
        apply wl_none; intro c hc
        have hh : s.data.toList.head? = some s[0] := by
          rw [List.head?_eq_getElem?, List.getElem?_eq_getElem (by simpa using hpos)]
          rfl
        rw [hh] at hc; simp at hc; rw [← hc]; exact hl'
      have HW := Lib.hid hwl; clear hwl hl
      go_enter Try.func63, Try.ntmps63
      go_wp2_with (go_at_call 80; refine (isLower_any _ _).mono ?_; rintro e w' ⟨rfl, rfl⟩)
      go_ret
      rw [HW.out]
      exact ⟨rfl, rfl⟩
  · have hne := toList_emp s hpos
    have HW : Hid (wl s.data.toList = 0) := by
      rw [← ByteArray.toList_eq, hne]; rfl
    go_enter Try.func63, Try.ntmps63
    go_wp2_with (go_at_call 80; refine (isLower_any _ _).mono ?_; rintro e w' ⟨rfl, rfl⟩)
    go_ret
    rw [HW.out]
    exact ⟨rfl, rfl⟩

set_option maxHeartbeats 2000000 in
theorem isKeyword_any (s : ByteArray) (w : World) :
    Calls Try.prog 64 #[.string s] w fun e w' => e = .returned (.bool (kwB s)) ∧ w = w' := by
  go_enter Try.func64, Try.ntmps64
  go_wp2
  all_goals go_ret
  all_goals refine ⟨?_, rfl⟩
  all_goals first | (simp [kwB, kws, *]; done) | (exfalso; simp_all; done)

set_option maxHeartbeats 2000000 in
theorem word_any (s : ByteArray) (w : World) (hs : s.size ≤ maxLen) :
    Calls Try.prog 66 #[.string s, .int .i64 0] w fun e w' => e = .returned (.int .i64 (wl s.data.toList)) ∧ w = w' := by
  have hs' : s.size ≤ 9223372036854775807 := hs
  clear hs
  by_cases hpos : 0 < s.size
  · have hne := toList_ne s hpos
    have hem := isEmpty_ne s hpos
    have hE : ¬ s = ByteArray.empty := by rintro rfl; simp at hpos
    by_cases hl : lowB (s[0].toNat : Int) = true
    · have HL := Lib.hid hl
      go_enter Try.func66, Try.ntmps66
      go_wp2_with (go_at_call 83; refine (lower_any _ _).mono ?_; rintro e w' ⟨rfl, rfl⟩)
      go_loop [1] (fun i => ∃ k : Nat, 0 ≤ k ∧ k ≤ s.size ∧ i = .int .i64 k ∧ Hid (∀ i (h : i < s.size), i < k → wcB (s[i].toNat : Int) = true)) (fun i => s.size - (intOf i).toNat)
      case atStart => exact ⟨0, by omega, by omega, rfl, fun i h h1 => absurd h1 (by omega)⟩
      case round =>
        obtain ⟨k, hk1, hk, rfl, hall⟩ := hrel
        clear hl hne hem hE
        by_cases hlt : k < s.size
        · by_cases q1 : lowB (s[k].toNat : Int) = true
          · go_wp2_with (first | (go_at_call 83; refine (lower_any _ _).mono ?_; rintro e w' ⟨rfl, rfl⟩) | (go_at_call 84; refine (digit_any _ _).mono ?_; rintro e w' ⟨rfl, rfl⟩))
            go_round
            case rel => exact ⟨k + 1, by omega, by omega, by go_num, fun i h hi => by
              rcases Nat.lt_or_ge i k with h1 | h1
              · exact hall.out i h h1
              · obtain rfl : i = k := by omega
                simp [wcB, q1]⟩
            case measure => simp [intOf]; omega
          · have q1' : lowB (s[k].toNat : Int) = false := by simpa using q1
            clear q1
            by_cases q2 : digB (s[k].toNat : Int) = true
            · go_wp2_with (first | (go_at_call 83; refine (lower_any _ _).mono ?_; rintro e w' ⟨rfl, rfl⟩) | (go_at_call 84; refine (digit_any _ _).mono ?_; rintro e w' ⟨rfl, rfl⟩))
              go_round
              case rel => exact ⟨k + 1, by omega, by omega, by go_num, fun i h hi => by
                rcases Nat.lt_or_ge i k with h1 | h1
                · exact hall.out i h h1
                · obtain rfl : i = k := by omega
                  simp [wcB, q2]⟩
              case measure => simp [intOf]; omega
            · have q2' : digB (s[k].toNat : Int) = false := by simpa using q2
              clear q2
              by_cases q3 : ((s[k].toNat : Int) == 95) = true
              · go_wp2_with (first | (go_at_call 83; refine (lower_any _ _).mono ?_; rintro e w' ⟨rfl, rfl⟩) | (go_at_call 84; refine (digit_any _ _).mono ?_; rintro e w' ⟨rfl, rfl⟩))
                go_round
                case rel => exact ⟨k + 1, by omega, by omega, by go_num, fun i h hi => by
                  rcases Nat.lt_or_ge i k with h1 | h1
                  · exact hall.out i h h1
                  · obtain rfl : i = k := by omega
                    simp only [wcB, q3, Bool.or_true]⟩
                case measure => simp [intOf]; omega
              · have q3' : ((s[k].toNat : Int) == 95) = false := by simpa using q3
                clear q3
                go_wp2_with (first | (go_at_call 83; refine (lower_any _ _).mono ?_; rintro e w' ⟨rfl, rfl⟩) | (go_at_call 84; refine (digit_any _ _).mono ?_; rintro e w' ⟨rfl, rfl⟩))
                go_ret
                rw [wl_of s k hk (fun _ => HL.out) hpos hall.out (fun _ => by simp only [wcB, q1', q2', q3', Bool.or_self])]
                exact ⟨rfl, rfl⟩
        · go_wp2_with fail
          go_ret
          rw [wl_of s k hk (fun _ => HL.out) hpos hall.out (fun h => absurd h hlt)]
          exact ⟨rfl, rfl⟩
    · have hl' : lowB (s[0].toNat : Int) = false := by simpa using hl
      have hwl : wl s.data.toList = 0 := by
        apply wl_none; intro c hc
        have hh : s.data.toList.head? = some s[0] := by
          rw [List.head?_eq_getElem?, List.getElem?_eq_getElem (by simpa using hpos)]
          rfl
        rw [hh] at hc; simp at hc; rw [← hc]; exact hl'
      have HW := Lib.hid hwl; clear hwl hl
      go_enter Try.func66, Try.ntmps66
      go_wp2_with (go_at_call 83; refine (lower_any _ _).mono ?_; rintro e w' ⟨rfl, rfl⟩)
      go_ret
      rw [HW.out]
      exact ⟨rfl, rfl⟩
  · have hne := toList_emp s hpos
    have hE : s = ByteArray.empty := by
      have h1 : s.data.toList = [] := by rw [← ByteArray.toList_eq]; exact hne
      obtain ⟨⟨l⟩⟩ := s
      simp at h1
      subst h1
      rfl
    have HW : Hid (wl s.data.toList = 0) := by
      rw [← ByteArray.toList_eq, hne]; rfl
    go_enter Try.func66, Try.ntmps66
    go_wp2_with (go_at_call 83; refine (lower_any _ _).mono ?_; rintro e w' ⟨rfl, rfl⟩)
    go_ret
    rw [HW.out]
    exact ⟨rfl, rfl⟩


def kwCells : Array Value := #[Value.string { data := #[97, 103, 114, 101, 101, 109, 101, 110, 116] }, Value.string { data := #[105, 110, 112, 117, 116] }, Value.string { data := #[112, 97, 115, 116] }, Value.string { data := #[115, 99, 97, 108, 101] }, Value.string { data := #[114, 117, 108, 101] }, Value.string { data := #[112, 97, 121] }, Value.string { data := #[102, 114, 111, 109] }, Value.string { data := #[114, 111, 117, 110, 100, 101, 100] }, Value.string { data := #[116, 111] }, Value.string { data := #[105, 102] }, Value.string { data := #[116, 104, 101, 110] }, Value.string { data := #[101, 108, 115, 101] }, Value.string { data := #[97, 110, 100] }, Value.string { data := #[111, 114] }, Value.string { data := #[110, 111, 116] }, Value.string { data := #[116, 114, 117, 101] }, Value.string { data := #[102, 97, 108, 115, 101] }, Value.string { data := #[109, 105, 110] }, Value.string { data := #[109, 97, 120] }, Value.string { data := #[114, 111, 117, 110, 100] }, Value.string { data := #[97, 118, 101, 114, 97, 103, 101] }, Value.string { data := #[108, 97, 115, 116] }, Value.string { data := #[109, 111, 110, 101, 121] }, Value.string { data := #[104, 111, 117, 114, 115] }, Value.string { data := #[100, 97, 121, 115] }, Value.string { data := #[110, 117, 109, 98, 101, 114] }, Value.string { data := #[98, 111, 111, 108] }, Value.string { data := #[100, 111, 119, 110] }, Value.string { data := #[117, 112] }, Value.string { data := #[102, 108, 111, 111, 114] }, Value.string { data := #[99, 101, 105, 108, 105, 110, 103] }, Value.string { data := #[104, 97, 108, 102, 95, 117, 112] }, Value.string { data := #[104, 97, 108, 102, 95, 100, 111, 119, 110] }, Value.string { data := #[104, 97, 108, 102, 95, 101, 118, 101, 110] }]
def kwAt (k : Nat) : ByteArray := ⟨(kws.getD k []).toArray⟩
theorem kwCells_eq : kwCells = (kws.map fun l => Value.string ⟨l.toArray⟩).toArray := rfl
theorem kwCells_at (k : Nat) (h : k < 34) : kwCells[k]? = some (.string (kwAt k)) := by
  have hl : k < kws.length := h
  rw [kwCells_eq, List.getElem?_toArray, List.getElem?_map, List.getElem?_eq_getElem hl]
  simp [kwAt, hl]
theorem kwAt_toList (k : Nat) : (kwAt k).toList = kws.getD k [] := by rw [ByteArray.toList_eq]; simp [kwAt]

set_option maxHeartbeats 2000000 in
theorem isKeyword17_any (s : ByteArray) (w : World) :
    Calls Try.prog 67 #[.string s] w fun e w' => e = .returned (.bool (kwB s)) ∧ Below w.heap.size w w' := by
  go_enter Try.func67, Try.ntmps67
  go_wp2
  rw [show Obj.cells #[Value.string { data := #[97, 103, 114, 101, 101, 109, 101, 110, 116] }, Value.string { data := #[105, 110, 112, 117, 116] }, Value.string { data := #[112, 97, 115, 116] }, Value.string { data := #[115, 99, 97, 108, 101] }, Value.string { data := #[114, 117, 108, 101] }, Value.string { data := #[112, 97, 121] }, Value.string { data := #[102, 114, 111, 109] }, Value.string { data := #[114, 111, 117, 110, 100, 101, 100] }, Value.string { data := #[116, 111] }, Value.string { data := #[105, 102] }, Value.string { data := #[116, 104, 101, 110] }, Value.string { data := #[101, 108, 115, 101] }, Value.string { data := #[97, 110, 100] }, Value.string { data := #[111, 114] }, Value.string { data := #[110, 111, 116] }, Value.string { data := #[116, 114, 117, 101] }, Value.string { data := #[102, 97, 108, 115, 101] }, Value.string { data := #[109, 105, 110] }, Value.string { data := #[109, 97, 120] }, Value.string { data := #[114, 111, 117, 110, 100] }, Value.string { data := #[97, 118, 101, 114, 97, 103, 101] }, Value.string { data := #[108, 97, 115, 116] }, Value.string { data := #[109, 111, 110, 101, 121] }, Value.string { data := #[104, 111, 117, 114, 115] }, Value.string { data := #[100, 97, 121, 115] }, Value.string { data := #[110, 117, 109, 98, 101, 114] }, Value.string { data := #[98, 111, 111, 108] }, Value.string { data := #[100, 111, 119, 110] }, Value.string { data := #[117, 112] }, Value.string { data := #[102, 108, 111, 111, 114] }, Value.string { data := #[99, 101, 105, 108, 105, 110, 103] }, Value.string { data := #[104, 97, 108, 102, 95, 117, 112] }, Value.string { data := #[104, 97, 108, 102, 95, 100, 111, 119, 110] }, Value.string { data := #[104, 97, 108, 102, 95, 101, 118, 101, 110] }] 9 = Obj.cells kwCells 9 from rfl]
  go_loop [4] (fun i => ∃ k : Nat, k ≤ 34 ∧ i = .int .i64 k ∧ Hid (∀ j, j < k → (kws.getD j [] == s.toList) = false)) (fun i => 34 - (intOf i).toNat)
  case atStart => exact ⟨0, by omega, rfl, fun j hj => absurd hj (by omega)⟩
  case round =>
    obtain ⟨k, hk, rfl, hall⟩ := hrel
    by_cases hlt : k < 34
    · have hc := kwCells_at k hlt
      by_cases ht : ((kwAt k).toList == s.toList) = true
      · go_wp2
        go_ret
        have hk : kwB s = true := by
          rw [kwAt_toList] at ht
          rw [kwB, List.any_eq_true]
          refine ⟨kws.getD k [], ?_, by rw [beq_iff_eq] at ht ⊢; exact ht.symm⟩
          rw [List.getD_eq_getElem?_getD, List.getElem?_eq_getElem (show k < kws.length from hlt)]
          exact List.getElem_mem _
        exact ⟨by rw [hk]; rfl, (Below.refl _ _).alloc (Nat.le_refl _) _⟩
      · have ht' : ((kwAt k).toList == s.toList) = false := by simpa using ht
        clear ht
        go_wp2
        go_round
        case rel =>
          refine ⟨k + 1, by omega, by go_num, fun j hj => ?_⟩
          rcases Nat.lt_or_ge j k with h1 | h1
          · exact hall.out j h1
          · obtain rfl : j = k := by omega
            rw [← kwAt_toList]; exact ht'
        case measure => simp [intOf]; omega
    · go_wp2
      go_ret
      have hk : kwB s = false := by
        rw [kwB, List.any_eq_false]
        intro x hx
        obtain ⟨j, hj, rfl⟩ := List.mem_iff_getElem.1 hx
        have h34 : kws.length = 34 := rfl
        have := hall.out j (by omega)
        rw [List.getD_eq_getElem?_getD, List.getElem?_eq_getElem hj] at this
        simp at this
        simp
        exact fun e => this e.symm
      exact ⟨by rw [hk]; rfl, (Below.refl _ _).alloc (Nat.le_refl _) _⟩

theorem wl_le (s : ByteArray) : wl s.data.toList ≤ s.size := by
  unfold wl
  have h2 : s.size = s.data.toList.length := by simp
  split
  · rw [h2]; exact (List.takeWhile_sublist _).length_le
  · omega

set_option maxHeartbeats 1000000 in
theorem isName_any (s : ByteArray) (w : World) (hs : s.size ≤ maxLen) :
    Calls Try.prog 50 #[.string s] w fun e w' => e = .returned (.bool (nameB s)) ∧ w = w' := by
  have hs' : s.size ≤ 9223372036854775807 := hs
  by_cases h1 : 0 < s.size
  · by_cases h2 : s.size ≤ 24
    · have h3 := wl_le s
      by_cases h4 : wl s.data.toList = s.size
      · have h4' : ((wl s.data.toList : Int) == (s.size : Int)) = true := by simp [h4]
        have H4 := Lib.hid h4; clear h4
        go_enter Try.func50, Try.ntmps50
        go_wp2_with (first | (go_at_call 63; refine (wordLength_any _ _ hs).mono ?_; rintro e w' ⟨rfl, rfl⟩) | (go_at_call 64; refine (isKeyword_any _ _).mono ?_; rintro e w' ⟨rfl, rfl⟩))
        go_ret
        exact ⟨by simp [nameB, h1, h2, H4.out], rfl⟩
      · have h4' : ((wl s.data.toList : Int) == (s.size : Int)) = false := by simp; omega
        have H4 := Lib.hid h4; clear h4
        go_enter Try.func50, Try.ntmps50
        go_wp2_with (first | (go_at_call 63; refine (wordLength_any _ _ hs).mono ?_; rintro e w' ⟨rfl, rfl⟩) | (go_at_call 64; refine (isKeyword_any _ _).mono ?_; rintro e w' ⟨rfl, rfl⟩))
        go_ret
        exact ⟨by simp [nameB, h1, h2, H4.out], rfl⟩
    · go_enter Try.func50, Try.ntmps50
      go_wp2_with (first | (go_at_call 63; refine (wordLength_any _ _ hs).mono ?_; rintro e w' ⟨rfl, rfl⟩) | (go_at_call 64; refine (isKeyword_any _ _).mono ?_; rintro e w' ⟨rfl, rfl⟩))
      go_ret
      exact ⟨by simp [nameB, h1, h2], rfl⟩
  · go_enter Try.func50, Try.ntmps50
    go_wp2_with (first | (go_at_call 63; refine (wordLength_any _ _ hs).mono ?_; rintro e w' ⟨rfl, rfl⟩) | (go_at_call 64; refine (isKeyword_any _ _).mono ?_; rintro e w' ⟨rfl, rfl⟩))
    go_ret
    exact ⟨by simp [nameB, h1], rfl⟩

set_option maxHeartbeats 1000000 in
theorem isName17_any (s : ByteArray) (w : World) (hs : s.size ≤ maxLen) :
    Calls Try.prog 55 #[.string s] w fun e w' => e = .returned (.bool (nameB s)) ∧ Below w.heap.size w w' := by
  have hs' : s.size ≤ 9223372036854775807 := hs
  by_cases h1 : 0 < s.size
  · have hne := toList_ne s h1
    have hem := isEmpty_ne s h1
    by_cases h2 : s.size ≤ 24
    · have h3 := wl_le s
      by_cases h4 : wl s.data.toList = s.size
      · have h4' : ((wl s.data.toList : Int) == (s.size : Int)) = true := by simp [h4]
        have H4 := Lib.hid h4; clear h4
        go_enter Try.func55, Try.ntmps55
        go_wp2_with (first | (go_at_call 66; refine (word_any _ _ hs).mono ?_; rintro e w' ⟨rfl, rfl⟩) | (go_at_call 67; refine (isKeyword17_any _ _).mono ?_; rintro e w' ⟨rfl, hb⟩))
        go_ret
        exact ⟨by simp [nameB, h1, h2, H4.out], by first | exact hb | exact Below.refl _ _⟩
      · have h4' : ((wl s.data.toList : Int) == (s.size : Int)) = false := by simp; omega
        have H4 := Lib.hid h4; clear h4
        go_enter Try.func55, Try.ntmps55
        go_wp2_with (first | (go_at_call 66; refine (word_any _ _ hs).mono ?_; rintro e w' ⟨rfl, rfl⟩) | (go_at_call 67; refine (isKeyword17_any _ _).mono ?_; rintro e w' ⟨rfl, hb⟩))
        go_ret
        exact ⟨by simp [nameB, h1, h2, H4.out], by first | exact hb | exact Below.refl _ _⟩
    · go_enter Try.func55, Try.ntmps55
      go_wp2_with (first | (go_at_call 66; refine (word_any _ _ hs).mono ?_; rintro e w' ⟨rfl, rfl⟩) | (go_at_call 67; refine (isKeyword17_any _ _).mono ?_; rintro e w' ⟨rfl, hb⟩))
      go_ret
      exact ⟨by simp [nameB, h1, h2], Below.refl _ _⟩
  · have hne := toList_emp s h1
    go_enter Try.func55, Try.ntmps55
    go_wp2_with (first | (go_at_call 66; refine (word_any _ _ hs).mono ?_; rintro e w' ⟨rfl, rfl⟩) | (go_at_call 67; refine (isKeyword17_any _ _).mono ?_; rintro e w' ⟨rfl, hb⟩))
    go_ret
    exact ⟨by simp [nameB, h1], Below.refl _ _⟩

end Go.Proofs.Ytbiajkknpkeeoaa
