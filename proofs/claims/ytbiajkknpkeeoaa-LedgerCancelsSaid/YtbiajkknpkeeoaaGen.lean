/- Contracts of the generators of package paygen that the statements on wages use: what they draw is of the right form. Conditions: at most a million numbers have been drawn. -/
import Derived.Test.YtbiajkknpkeeoaaLeaf
import Derived.Test.YtbiajkknpkeeoaaTok
import Derived.Deep.RegionWith
import Derived.Deep.DeepCutAuto
namespace Go.Proofs.Ytbiajkknpkeeoaa
open Go.RowKit

structure WageT where
  code : ByteArray
  kind : Int
  taxable : Bool
  insured : Bool
  attachable : Bool
  account : Int
deriving DecidableEq
def encW (x : WageT) : List Value := [.string x.code, .int .i64 x.kind, .bool x.taxable, .bool x.insured, .bool x.attachable, .int .i64 x.account]
structure Elem where
  code : ByteArray
  amount : Int
deriving DecidableEq
def encE (x : Elem) : List Value := [.string x.code, .int .i64 x.amount]

theorem encW_len (x : WageT) : (encW x).length = 6 := rfl
theorem encE_len (x : Elem) : (encE x).length = 2 := rfl
theorem encW_one (x : WageT) : ∀ u ∈ encW x, u.oneCell' = true := by intro u hu; simp [encW] at hu; rcases hu with rfl | rfl | rfl | rfl | rfl | rfl <;> rfl
theorem encE_one (x : Elem) : ∀ u ∈ encE x, u.oneCell' = true := by intro u hu; simp [encE] at hu; rcases hu with rfl | rfl <;> rfl
theorem infoW : (Try.prog.info? 68).map (fun i => (i.zero, i.size, i.bytes)) = some (some (.agg #[.string ⟨#[]⟩, .int .i64 0, .bool false, .bool false, .bool false, .int .i64 0]), 6, 40) := by kernel_rfl

def cBonus : ByteArray := ⟨#[98, 111, 110, 117, 115]⟩
def cCar : ByteArray := ⟨#[99, 97, 114]⟩
def cNight : ByteArray := ⟨#[110, 105, 103, 104, 116]⟩
def cSalary : ByteArray := ⟨#[115, 97, 108, 97, 114, 121]⟩
def codes4 : List ByteArray := [cBonus, cCar, cNight, cSalary]
def cells4 : Array Value := #[.string ⟨#[98, 111, 110, 117, 115]⟩, .string ⟨#[99, 97, 114]⟩, .string ⟨#[110, 105, 103, 104, 116]⟩, .string ⟨#[115, 97, 108, 97, 114, 121]⟩]
def code4 (k : Nat) : ByteArray := codes4.getD k cBonus
theorem cells4_at (k : Nat) (h : k < 4) : cells4[k]? = some (.string (code4 k)) := by
  match k, h with
  | 0, _ => rfl
  | 1, _ => rfl
  | 2, _ => rfl
  | 3, _ => rfl

/-- What a drawn wage type is like. -/
structure WageOk (x : WageT) : Prop where
  code : x.code ∈ codes4
  kind : x.kind = 1 ∨ (x.kind = 2 ∧ x.attachable = false)
  lo : 4000 ≤ x.account
  hi : x.account ≤ 4003
structure GenW (k : Nat) (xs : List WageT) : Prop where
  sub : (xs.map (·.code)).Sublist (codes4.take k)
  ok : ∀ x ∈ xs, WageOk x
theorem GenW.nil_ : GenW 0 [] := ⟨by simp, by simp⟩
theorem take4 (k : Nat) (h : k < 4) : codes4.take (k + 1) = codes4.take k ++ [code4 k] := by
  match k, h with
  | 0, _ => rfl
  | 1, _ => rfl
  | 2, _ => rfl
  | 3, _ => rfl
theorem GenW.skip {k : Nat} {xs : List WageT} (h : GenW k xs) (hk : k < 4) : GenW (k + 1) xs :=
  ⟨by rw [take4 k hk]; exact h.sub.trans (List.sublist_append_left _ _), h.ok⟩
theorem GenW.more {k : Nat} {xs : List WageT} (h : GenW k xs) (hk : k < 4) (x : WageT) (hc : x.code = code4 k) (hx : WageOk x) : GenW (k + 1) (xs ++ [x]) := by
  refine ⟨?_, fun y hy => ?_⟩
  · rw [take4 k hk, List.map_append]
    exact h.sub.append (by simp [hc])
  · rcases List.mem_append.1 hy with h1 | h1
    · exact h.ok y h1
    · simp at h1; subst h1; exact hx
theorem GenW.len {k : Nat} {xs : List WageT} (h : GenW k xs) : xs.length ≤ 4 := by
  have := h.sub.length_le
  simp [codes4] at this
  omega
theorem code4_mem (k : Nat) (h : k < 4) : code4 k ∈ codes4 := by
  match k, h with
  | 0, _ => simp [code4, codes4]
  | 1, _ => simp [code4, codes4]
  | 2, _ => simp [code4, codes4]
  | 3, _ => simp [code4, codes4]


set_option maxHeartbeats 1000000 in
theorem small_any (b M : Nat) (w : World) (hM : M ≤ 900000) (hd : DeckIn w b M) :
    Calls Try.prog 44 #[.pointer (some ⟨b, 0, none⟩)] w fun e w' => ∃ r : Int, e = .returned (.int .i64 r) ∧ 0 ≤ r ∧ r < 600000 ∧ DeckIn w' b (M + 2) ∧ w.grownBy w' (some b) := by
  have hlt := hd.lt
  go_enter Try.func44, Try.ntmps44
  go_wp2_with fail
  refine (next_any b M _ _ (by omega) (by omega) (by omega) hd).mono ?_
  rintro e w1 ⟨r1, rfl, ha1, hb1, hd1, hg1⟩
  have hlt1 := hd1.lt
  by_cases h0 : r1 = 0
  · subst h0
    go_wp2_with fail
    refine (pick_any b (M + 1) _ _ [0, 0, 1, 100] _ (by omega) (hd1.alloc _) (by simp) (by simp) ?_ ?_).mono ?_
    · exact fun _ => ⟨w1.heap.size, 0, rfl, by simp, fun i x hi j v hj => by
        rw [World.cell?_alloc_at _ _ _ _ rfl]
        match j, hj with
        | 0, hj =>
          match i, hi with
          | 0, hi => simp at hi; subst hi; simpa [encI] using hj
          | 1, hi => simp at hi; subst hi; simpa [encI] using hj
          | 2, hi => simp at hi; subst hi; simpa [encI] using hj
          | 3, hi => simp at hi; subst hi; simpa [encI] using hj
          | (n + 4), hi => simp at hi
        | (n + 1), hj => simp [encI] at hj⟩
    · intro a ha; injection ha with ha; subst ha; simp; omega
    · rintro e w2 ⟨r2, rfl, hr, hd2, hg2⟩
      go_wp2
      go_ret
      have : 0 ≤ r2 ∧ r2 < 600000 := by simp at hr; omega
      exact ⟨r2, rfl, this.1, this.2, hd2, only_trans (only_alloc hg1 _) hg2⟩
  · have h0' : (r1 == 0) = false := by simpa using h0
    clear h0
    go_wp2_with fail
    refine (next_any b (M + 1) _ _ (by omega) (by omega) (by omega) hd1).mono ?_
    rintro e w2 ⟨r2, rfl, ha2, hb2, hd2, hg2⟩
    go_wp2
    go_ret
    exact ⟨r2, rfl, ha2, hb2, hd2, only_trans hg1 hg2⟩

theorem SliceOf.new {α : Type} {enc : α → List Value} {k : Nat} (hk : ∀ x, (enc x).length = k) (w : World) (l : List α) (cs : Array Value) (t : TypeId) (h : cs = (l.flatMap enc).toArray) :
    SliceOf enc k (w.alloc (.cells cs t)) (w.heap.size + 1) (some ⟨w.heap.size, 0, none⟩) l := fun _ => by
  subst h
  refine ⟨w.heap.size, 0, rfl, by omega, fun i x hi j v hj => ?_⟩
  rw [World.cell?_alloc_at _ _ _ _ rfl, Nat.zero_add, List.getElem?_toArray]
  exact flatMap_at hk l i j x v hi hj
theorem encI_len (x : Int) : (encI x).length = 1 := rfl


def code8 : List ByteArray := [cBonus, cCar, cNight, cSalary, ⟨#[97]⟩, ⟨#[98]⟩, ⟨#[120, 49]⟩, ⟨#[97, 98, 99, 100, 101, 102, 103, 104, 105, 106, 107, 108, 109, 110, 111, 112, 113, 114, 115, 116, 117, 118, 119, 120]⟩]
theorem code8_size : ∀ s ∈ code8, s.size ≤ 24 := by decide
def encS (s : ByteArray) : List Value := [.string s]
theorem encS_len (s : ByteArray) : (encS s).length = 1 := rfl

set_option maxHeartbeats 1000000 in
theorem code_any (b M : Nat) (w : World) (hM : M ≤ 900000) (hd : DeckIn w b M) :
    Calls Try.prog 49 #[.pointer (some ⟨b, 0, none⟩)] w fun e w' => ∃ s : ByteArray, e = .returned (.string s) ∧ s ∈ code8 ∧ DeckIn w' b (M + 1) ∧ w.grownBy w' (some b) := by
  have hlt := hd.lt
  go_enter Try.func49, Try.ntmps49
  go_wp2_with fail
  have hS := SliceOf.new encS_len w code8 _ 9 rfl
  refine (next_any b M _ _ (by omega) (by omega) (by omega) (hd.alloc _)).mono ?_
  rintro e w1 ⟨r1, rfl, ha1, hb1, hd1, hg1⟩
  obtain ⟨j, rfl⟩ := Int.eq_ofNat_of_zero_le ha1
  have hj : j < code8.length := by simp [code8]; omega
  obtain ⟨b', off, h1, h2, h3⟩ := hS.at_ hj
  injection h1 with h1
  injection h1 with h1 h4
  subst h1 h4
  have hx := (World.cell?_of_block (a := ⟨w.heap.size, 0 + j * 1 + 0, none⟩) (hg1.block w.heap.size (by simp) (fun e => by injection e; omega))).trans (h3 0 _ rfl)
  simp only [Nat.add_zero, Nat.mul_one, Nat.zero_add] at hx
  clear h3 hS
  go_wp2
  go_ret
  exact ⟨_, rfl, List.getElem_mem _, hd1, only_trans (only_alloc (only_refl _ _) _) hg1⟩

end Go.Proofs.Ytbiajkknpkeeoaa
