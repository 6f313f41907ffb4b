/- Joined texts: BlkOps. Conditions: as stated. -/
import Derived.Deep.MidRow
import Derived.Test.YtopekilofdadnaaGreatDoorJTvN
namespace Go.Proofs.YtopekilofdadnaaGreatDoor
open Go.RowKit
theorem Blk.rangeAt {w:World} {g:Nat} {t:TypeId} {cs:Array Value} (h:Blk w g t cs) : w.rangeAt g 0 cs.toList:=fun j v hv=>by
 rw [Nat.zero_add,h.cell]; simpa using hv
theorem Blk.there {w:World} {g:Nat} {t:TypeId} {cs:Array Value} (h:Blk w g t cs) : w.there g 0 cs.size:=fun j hj=>by
 rw [Nat.zero_add]
 exact ⟨by rw [h.cell,Array.getElem?_eq_getElem hj]; rfl,h.frozen j⟩
theorem setCells_grown (g:Nat) : ∀ (vs:List Value) (o:Nat) (w:World),w.grownBy (w.setCells g o vs) (some g)
 | [],_,w=>only_refl _ _
 | v :: r,o,w=>by
  rw [World.setCells]
  exact only_trans (only_setCell (p:=⟨g,o,none⟩) (only_refl _ _) (.inl rfl) v) (setCells_grown g r (o+1) _)
theorem setCells_blk {g:Nat} {t:TypeId} : ∀ (vs:List Value) (o:Nat) {w:World} {cs:Array Value},Blk w g t cs→∃ cs' : Array Value,cs'.size = cs.size∧Blk (w.setCells g o vs) g t cs'
 | [],_,_,cs,h=>⟨cs,rfl,h⟩
 | v :: r,o,_,cs,h=>by
  obtain ⟨cs',h1,h2⟩:=setCells_blk r (o+1) (h.set_ o v)
  exact ⟨cs',by simpa using h1,by rw [World.setCells]; exact h2⟩
theorem Blk.setAll {w:World} {g:Nat} {t:TypeId} {cs vs : Array Value} (h:Blk w g t cs) (hs:vs.size = cs.size) : Blk (w.setCells g 0 vs.toList) g t vs:=by
 obtain ⟨cs',h1,h2⟩:=setCells_blk vs.toList 0 h
 have h3:=World.rangeAt_setCells_same w g 0 vs.toList (by have:=h.there; rw [← hs] at this; simpa using this)
 have e:cs' = vs:=by
  apply Array.ext_getElem?
  intro i
  rcases Nat.lt_or_ge i vs.size with hi | hi
  ·
   have h4:=h3 i vs[i] (by simp [hi])
   rw [Nat.zero_add,h2.cell] at h4
   rw [h4,Array.getElem?_eq_getElem hi]
  ·
   rw [Array.getElem?_eq_none hi,Array.getElem?_eq_none (by omega)]
 rw [e] at h2
 exact h2
section
variable {P:Program}
theorem wpList_store_blk {ops:Array Oper} {rest:List Oper} {op:Oper} {a:Act} {w:World} {Q:Exit→Act→World→Prop} (hgd:op.guard = none) (ty:TypeId) (x y : Operand) (ho:op.op = .store ty x y) (hdst:op.dst = none)
  (g:Nat) {t:TypeId} {cs vs:Array Value} (hx:a.eval x = .pointer (some ⟨g,0,none⟩)) (hy:a.eval y = .agg vs) (hB:Blk w g t cs) (hs:vs.size = cs.size)
  (hi:(P.info? ty).map (·.size) = some vs.size) (h1:vs.toList.all (·.oneCell') = true)
  (h:∀ w',Blk w' g t vs→w.grownBy w' (some g)→wpList P ops Q rest a w') : wpList P ops Q (op :: rest) a w :=
 wpList_store_mid hgd ty x y ho g 0 vs hx hy (by have:=hB.there; rwa [← hs] at this) hi (by simpa using h1) (by rw [hdst]; exact h _ (hB.setAll hs) (setCells_grown _ _ _ _))
theorem setCells_off {g:Nat} {t:TypeId} : ∀ (vs:List Value) (o:Nat) {w:World} {cs:Array Value},Blk w g t cs→o+vs.length≤cs.size→Blk (w.setCells g o vs) g t (cs.toList.take o++vs++cs.toList.drop (o+vs.length)).toArray
 | [],o,w,cs,h,_=>by
  have:(cs.toList.take o++[]++cs.toList.drop (o+([] : List Value).length)).toArray = cs:=by simp
  rw [this]; exact h
 | v :: r,o,w,cs,h,hs=>by
  have hs':o < cs.size:=by simp at hs; omega
  have h1:=setCells_off r (o+1) (h.set_ o v) (by simp at hs ⊢; omega)
  rw [World.setCells]
  have e:(cs.setIfInBounds o v).toList.take (o+1)++r++(cs.setIfInBounds o v).toList.drop (o+1+r.length) = cs.toList.take o++(v :: r)++cs.toList.drop (o+(v :: r).length):=by
   rw [Array.toList_setIfInBounds]
   have hl:o < (cs.toList.set o v).length:=by simpa using hs'
   rw [List.take_succ_eq_append_getElem hl,List.getElem_set_self,List.take_set_of_le (Nat.le_refl _),List.drop_set_of_lt (by omega),List.length_cons]
   simp [Nat.add_assoc,Nat.add_comm 1]
  rw [e] at h1
  exact h1
theorem results_blk {fn:Func} {tmps:Array Value} {w:World} {s:Tmp} {ty t : TypeId} {g:Nat} {cs:Array Value} {d:TypeDesc} (hr:fn.results = #[.cell s ty]) (hs:tmps.getD s undef = .pointer (some ⟨g,0,none⟩)) (hB:Blk w g t cs)
  (hu:P.underlying ty = some d) (hd:d.isRow = true) (hi:(P.info? ty).map (·.size) = some cs.size) : (results fn tmps).run P w = .ok (.agg cs) w:=by
 have h:=run_loadVar_mid w g 0 ty cs.toList d hB.rangeAt hu hd (by simpa using hi)
 have hs':tmps[s]?.getD undef = .pointer (some ⟨g,0,none⟩):=by simpa using hs
 rw [Array.toArray_toList] at h
 simp [results,hr,hs',asAddr,h]
end
end Go.Proofs.YtopekilofdadnaaGreatDoor
