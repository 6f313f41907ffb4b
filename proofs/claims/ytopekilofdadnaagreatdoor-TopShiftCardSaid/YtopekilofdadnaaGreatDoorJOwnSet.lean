/- Joined texts: OwnSet. Conditions: as stated. -/
import Derived.Test.YtopekilofdadnaaGreatDoorJTvN
namespace Go.Proofs.YtopekilofdadnaaGreatDoor
open Go.RowKit
theorem row_set {w:World} {base g n cap : Nat} {e:TypeId} {k:Nat} {L:List Value} (h:w.ownsRow base e k (.slice (some ⟨g,0,none⟩) n cap) n L) (i:Nat) (u:Value) :
  (w.setCell ⟨g,i,none⟩ u).ownsRow base e k (.slice (some ⟨g,0,none⟩) n cap) n (L.set i u):=by
 obtain ⟨h1,h2⟩:=h
 refine ⟨by simpa using h1,?_⟩
 rcases h2 with ⟨hv,_⟩ | ⟨g',cap',cur,hv,hb,hg,hn,hm,hs,ht⟩
 ·
  cases hv
 ·
  injection hv with e1 e2 e3
  injection e1 with e1
  injection e1 with e1 _
  subst e1 e3
  refine .inr ⟨g,cap,cur.setIfInBounds i u,rfl,hb,?_,hn,hm,by simpa using hs,?_⟩
  ·
   simp [World.setCell,Array.getElem?_modify,hg]
  ·
   rw [Array.toList_setIfInBounds,List.take_set,ht]
theorem flatMap_set1 {α:Type} {enc:α→List Value} (hk : ∀ x,(enc x).length = 3) (y:α) (f:Nat) (u:Value) (hf:f < 3) : ∀ (ys:List α) (j:Nat) (hj:j < ys.length),enc y = (enc ys[j]).set f u→(ys.set j y).flatMap enc = (ys.flatMap enc).set (j * 3+f) u:=by
 intro ys
 induction ys with
 | nil=>intro j hj; simp at hj
 | cons x r ih =>
  intro j hj hy
  cases j with
  | zero =>
   simp only [List.getElem_cons_zero] at hy
   rw [List.set_cons_zero,List.flatMap_cons,List.flatMap_cons,hy,Nat.zero_mul,Nat.zero_add,List.set_append_left _ _ (by rw [hk]; exact hf)]
  | succ j =>
   simp only [List.getElem_cons_succ] at hy
   rw [List.set_cons_succ,List.flatMap_cons,List.flatMap_cons,ih j (by simpa using hj) hy,List.set_append_right _ _ (by rw [hk]; omega),hk]
   rw [show (j+1) * 3+f - 3 = j * 3+f by omega]
theorem Own.set1 {α:Type} {enc:α→List Value} {e:TypeId} {w:World} {base g cap : Nat} {ys:List α} (hk : ∀ x,(enc x).length = 3) {n:Nat} (hn:n = ys.length) (h:Own enc 3 e w base (.slice (some ⟨g,0,none⟩) n cap) ys) {j:Nat} (hj:j < ys.length) (y:α) (f:Nat) (u:Value) (hf:f < 3) (hy:enc y = (enc ys[j]).set f u) :
  Own enc 3 e (w.setCell ⟨g,j * 3+f,none⟩ u) base (.slice (some ⟨g,0,none⟩) n cap) (ys.set j y):=by
 subst hn
 unfold Own
 rw [flatMap_set1 hk y f u hf ys j hj hy,List.length_set]
 exact row_set h _ _
theorem Own.some_ {α:Type} {enc:α→List Value} {k:Nat} {e:TypeId} {w:World} {base:Nat} {v:Value} {ys:List α} (h:Own enc k e w base v ys) (hne:0 < ys.length) : ∃ g cap cur,v = .slice (some ⟨g,0,none⟩) ys.length cap∧base≤g∧Blk w g e cur∧ys.length≤cap∧cap≤maxLen:=by
 rcases h.2 with ⟨_,h0⟩ | ⟨g,cap,cur,rfl,hb,hg,hn,hm,_⟩
 ·
  omega
 ·
  exact ⟨g,cap,cur,rfl,hb,hg,hn,hm⟩
end Go.Proofs.YtopekilofdadnaaGreatDoor
