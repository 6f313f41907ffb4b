/- Joined texts: TgR. Conditions: as stated. -/
import Derived.Test.YtopekilofdadnaaGreatDoorJTeN
import Derived.Test.YtopekilofdadnaaGreatDoorJOwnSet
import Derived.Test.YtopekilofdadnaaGreatDoorJTgQ
import Derived.Test.YtopekilofdadnaaGreatDoorJKeyK
namespace Go.Proofs.YtopekilofdadnaaGreatDoor
open Go.RowKit
def DutyM.own (d:DutyM) : Option Nat:=(Value.slice d.A d.ps.length d.c).ownBlock
def DutyM.key (d:DutyM) : Int × Int:=(d.s,d.d)
structure DutiesAt (w:World) (base:Nat) (v:Value) (ds:List DutyM) : Prop where
 row:Own encDu 3 150 w base v ds
 ps:∀ (i:Nat) (h:i < ds.length),Own encPr 3 81 w base (.slice ds[i].A ds[i].ps.length ds[i].c) ds[i].ps
 br:∀ (i:Nat) (h:i < ds.length),∀ x ∈ ds[i].ps,Own encIv 2 34 w base (.slice x.A x.br.length x.c) x.br
 ap:∀ (i k:Nat) (hi:i < ds.length) (hk:k < ds.length),i ≠ k→∀ g,ds[i].own = some g→ds[k].own ≠ some g
theorem tDuPr : (150:TypeId) ≠ 81:=by decide
theorem tDuIv : (150:TypeId) ≠ 34:=by decide
theorem tPrIv : (81:TypeId) ≠ 34:=by decide
section
variable {w w':World} {base:Nat} {v:Value} {ds:List DutyM}
theorem DutiesAt.nil_ (w:World) (base:Nat) : DutiesAt w base (.slice none 0 0) []:=⟨Own.nil_ _ _,fun i h=>by simp at h,fun i h=>by simp at h,fun i k h=>by simp at h⟩
theorem DutiesAt.kept {row:Option Nat} (h:DutiesAt w base v ds) (hg:w.grownBy w' row) (hr : ∀ g,row = some g→g < base) : DutiesAt w' base v ds :=
 ⟨h.row.kept hg hr,fun i hi=>(h.ps i hi).kept hg hr,fun i hi x hx=>(h.br i hi x hx).kept hg hr,h.ap⟩
theorem DutiesAt.adv (h:DutiesAt w base v ds) (hb:Below w.heap.size w w') : DutiesAt w' base v ds:=h.kept (only_of_below hb none) (fun _ e=>by cases e)
theorem DutiesAt.alloc (h:DutiesAt w base v ds) (o:Obj) : DutiesAt (w.alloc o) base v ds:=h.adv (below_new w o)
theorem DutiesAt.far {g:Nat} (h:DutiesAt w base v ds) (hg:w.grownBy w' (some g)) (h1:v.ownBlock ≠ some g) (h2 : ∀ (i:Nat) (hi:i < ds.length),ds[i].own ≠ some g) (h3 : ∀ (i:Nat) (hi:i < ds.length),∀ x ∈ ds[i].ps,(Value.slice x.A x.br.length x.c).ownBlock ≠ some g) : DutiesAt w' base v ds :=
 ⟨h.row.keptNe hg (fun q hq e=>h1 (by rw [hq,← e])),fun i hi=>(h.ps i hi).keptNe hg (fun q hq e=>h2 i hi (by rw [DutyM.own,hq,← e])),fun i hi x hx=>(h.br i hi x hx).keptNe hg (fun q hq e=>h3 i hi x hx (by rw [hq,← e])),h.ap⟩
theorem DutiesAt.push {v' : Value} (h:DutiesAt w base v ds) (s d : Int) (hrow:Own encDu 3 150 w' base v' (ds++[⟨s,d,none,0,[]⟩])) (hg:w.grownBy w' v.ownBlock) : DutiesAt w' base v' (ds++[⟨s,d,none,0,[]⟩]):=by
 refine ⟨hrow,fun i hi=>?_,fun i hi=>?_,fun i k hi hk hne g hgi=>?_⟩
 ·
  by_cases hl:i < ds.length
  ·
   rw [List.getElem_append_left hl]
   exact (h.ps i hl).keptNe hg (fun q hq e=>(h.ps i hl).types h.row tDuPr.symm hq e)
  ·
   rw [List.getElem_append_right (by omega)]
   simp only [List.getElem_singleton]
   exact Own.nil_ _ _
 ·
  by_cases hl:i < ds.length
  ·
   rw [List.getElem_append_left hl]
   exact fun x hx=>(h.br i hl x hx).keptNe hg (fun q hq e=>(h.br i hl x hx).types h.row tDuIv.symm hq e)
  ·
   rw [List.getElem_append_right (by omega)]
   simp only [List.getElem_singleton]
   exact fun x hx=>by cases hx
 ·
  by_cases hl:i < ds.length
  ·
   by_cases hl2:k < ds.length
   ·
    rw [List.getElem_append_left hl] at hgi
    rw [List.getElem_append_left hl2]
    exact h.ap i k hl hl2 hne g hgi
   ·
    rw [List.getElem_append_right (by omega)]
    simp only [List.getElem_singleton]
    intro e
    cases e
  ·
   rw [List.getElem_append_right (by omega)] at hgi
   simp only [List.getElem_singleton] at hgi
   cases hgi
theorem DutiesAt.put {g cap : Nat} {A2:Option Addr} {c2:Nat} {w2:World} (h:DutiesAt w base (.slice (some ⟨g,0,none⟩) ds.length cap) ds) {j:Nat} (hj:j < ds.length) (y:PresM) (hy:Own encIv 2 34 w base (.slice y.A y.br.length y.c) y.br)
  (hrow:Own encPr 3 81 w2 base (.slice A2 (ds[j].ps.length+1) c2) (ds[j].ps++[y])) (hg:w.grownBy w2 ds[j].own) (halt:(Value.slice A2 (ds[j].ps.length+1) c2).ownBlock = ds[j].own ∨ ∃ q,w.heap.size≤q∧(Value.slice A2 (ds[j].ps.length+1) c2).ownBlock = some q) :
  DutiesAt (w2.setCell ⟨g,j * 3+2,none⟩ (.slice A2 (ds[j].ps.length+1) c2)) base (.slice (some ⟨g,0,none⟩) ds.length cap) (ds.set j ⟨ds[j].s,ds[j].d,A2,c2,ds[j].ps++[y]⟩):=by
 have hr2:Own encDu 3 150 w2 base (.slice (some ⟨g,0,none⟩) ds.length cap) ds:=h.row.keptNe hg (fun q hq e=>h.row.types (h.ps j hj) tDuPr hq e)
 have hown:(Value.slice (some (⟨g,0,none⟩ : Addr)) ds.length cap).ownBlock = some g:=rfl
 have nPr:∀ {A c} {xs:List PresM},Own encPr 3 81 w2 base (.slice A xs.length c) xs→∀ q,(Value.slice A xs.length c).ownBlock = some q→q ≠ g:=fun ho q hq e=>by
  subst e
  exact hr2.types ho tDuPr hown hq
 have nIv:∀ {A c} {xs:List IvT},Own encIv 2 34 w2 base (.slice A xs.length c) xs→∀ q,(Value.slice A xs.length c).ownBlock = some q→q ≠ g:=fun ho q hq e=>by
  subst e
  exact hr2.types ho tDuIv hown hq
 have hal:(Value.slice A2 (ds[j].ps++[y]).length c2).ownBlock = ds[j].own ∨ ∃ q,w.heap.size≤q∧(Value.slice A2 (ds[j].ps++[y]).length c2).ownBlock = some q:=by
  rw [List.length_append,List.length_singleton]; exact halt
 have hrow':Own encPr 3 81 w2 base (.slice A2 (ds[j].ps++[y]).length c2) (ds[j].ps++[y]):=by
  rw [List.length_append,List.length_singleton]; exact hrow
 have hlt:∀ (i:Nat) (hi:i < ds.length) (q:Nat),ds[i].own = some q→q < w.heap.size:=fun i hi q hq=>((h.ps i hi).block_lt hq).2
 refine ⟨?_,fun i hi=>?_,fun i hi x hx=>?_,fun i k hi hk hne q hq=>?_⟩
 ·
  rw [show ds.length = (ds.set j ⟨ds[j].s,ds[j].d,A2,c2,ds[j].ps++[y]⟩).length by simp]
  have:=Own.set1 (n:=ds.length) encDu_len rfl hr2 hj ⟨ds[j].s,ds[j].d,A2,c2,ds[j].ps++[y]⟩ 2 (.slice A2 (ds[j].ps.length+1) c2) (by omega) (by simp [encDu])
  simpa using this
 ·
  have hi':i < ds.length:=by simpa using hi
  by_cases e:i = j
  ·
   subst e
   rw [List.getElem_set_self]
   exact hrow'.setCell (fun q hq=>nPr hrow' q hq) _
  ·
   rw [List.getElem_set_ne (fun x=>e x.symm)]
   have h1:=(h.ps i hi').keptNe hg (fun q hq e2=>h.ap i j hi' hj e q hq e2)
   exact h1.setCell (fun q hq=>nPr h1 q hq) _
 ·
  have hi':i < ds.length:=by simpa using hi
  have key:∀ {A c} {xs:List IvT},Own encIv 2 34 w base (.slice A xs.length c) xs→Own encIv 2 34 (w2.setCell ⟨g,j * 3+2,none⟩ (.slice A2 (ds[j].ps.length+1) c2)) base (.slice A xs.length c) xs:=fun ho=>by
   have h1:=ho.keptNe hg (fun q hq e=>ho.types (h.ps j hj) tPrIv.symm hq e)
   exact h1.setCell (fun q hq=>nIv h1 q hq) _
  by_cases e:i = j
  ·
   subst e
   rw [List.getElem_set_self] at hx
   rcases List.mem_append.1 hx with hx | hx
   ·
    exact key (h.br i hi' x hx)
   ·
    rw [List.mem_singleton] at hx
    subst hx
    exact key hy
  ·
   rw [List.getElem_set_ne (fun x=>e x.symm)] at hx
   exact key (h.br i hi' x hx)
 ·
  have hi':i < ds.length:=by simpa using hi
  have hk':k < ds.length:=by simpa using hk
  by_cases e:i = j
  ·
   subst e
   rw [List.getElem_set_self] at hq
   rw [List.getElem_set_ne hne]
   rcases hal with ha | ⟨q2,hq2,ha⟩
   ·
    exact h.ap i k hi' hk' hne q (by rw [← ha]; exact hq)
   ·
    intro e2
    have h1:=hlt k hk' q e2
    have h2:(Value.slice A2 (ds[i].ps++[y]).length c2).ownBlock = some q:=hq
    rw [ha] at h2
    injection h2 with h2
    omega
  ·
   rw [List.getElem_set_ne (fun x=>e x.symm)] at hq
   by_cases e2:k = j
   ·
    subst e2
    rw [List.getElem_set_self]
    intro h2
    have h2:(Value.slice A2 (ds[k].ps++[y]).length c2).ownBlock = some q:=h2
    rcases hal with ha | ⟨q2,hq2,ha⟩
    ·
     exact h.ap i k hi' hk' hne q hq (by rw [← ha]; exact h2)
    ·
     have h1:=hlt i hi' q hq
     rw [ha] at h2
     injection h2 with h2
     omega
   ·
    rw [List.getElem_set_ne (fun x=>e2 x.symm)]
    exact h.ap i k hi' hk' hne q hq
end
def idxK (ks:List (Int × Int)) (k:Int × Int) : Option Nat:=ks.findIdx? (fun x=>decide (x = k))
theorem idxK_app (ks:List (Int × Int)) (a k : Int × Int) (h:idxK ks a = none) : idxK (ks++[a]) k = if k = a then some ks.length else idxK ks k:=by
 unfold idxK at *
 rw [List.findIdx?_append]
 by_cases e:k = a
 ·
  subst e
  rw [h,if_pos rfl]
  simp
 ·
  rw [if_neg e]
  cases hk:List.findIdx? (fun x=>decide (x = k)) ks with
  | some i=>rfl
  | none=>simp [show ¬ a = k from fun x=>e x.symm]
theorem idxK_some {ks:List (Int × Int)} {k:Int × Int} {i:Nat} (h:idxK ks k = some i) : ∃ hi : i < ks.length,ks[i] = k:=by
 unfold idxK at h
 obtain ⟨hi,h1,_⟩:=List.findIdx?_eq_some_iff_getElem.1 h
 exact ⟨hi,by simpa using h1⟩
theorem idxK_none {ks:List (Int × Int)} {k:Int × Int} (h:idxK ks k = none) : k ∉ ks:=by
 unfold idxK at h
 rw [List.findIdx?_eq_none_iff] at h
 intro hk
 simpa using h k hk
theorem putDu_new {ds:List DutyM} {s d : Int} (h:idxK (ds.map DutyM.key) (s,d) = none) (p:PresT) : putDu (ds.map DutyM.t) s d p = ds.map DutyM.t++[⟨s,d,[p]⟩]:=by
 have hn:=idxK_none h
 unfold putDu
 rw [if_neg]
 simp only [List.any_map,List.any_eq_true,Function.comp,decide_eq_true_eq,not_exists,not_and]
 intro x hx h1 h2
 exact hn (List.mem_map.2 ⟨x,hx,by rw [DutyM.key]; rw [show x.s = s from h1,show x.d = d from h2]⟩)
theorem putDu_at {ds:List DutyM} {s d : Int} {j:Nat} (hj:j < ds.length) (hk:ds[j].key = (s,d)) (nd : (ds.map DutyM.key).Nodup) (y:PresM) (A2:Option Addr) (c2:Nat) :
  putDu (ds.map DutyM.t) s d y.p = (ds.set j ⟨ds[j].s,ds[j].d,A2,c2,ds[j].ps++[y]⟩).map DutyM.t:=by
 have hs:ds[j].s = s:=congrArg Prod.fst hk
 have hd:ds[j].d = d:=congrArg Prod.snd hk
 unfold putDu
 rw [if_pos]
 ·
  refine List.ext_getElem (by simp) fun i h1 h2=>?_
  have hi:i < ds.length:=by simpa using h1
  simp only [List.getElem_map,List.getElem_set]
  by_cases e:j = i
  ·
   subst e
   rw [if_pos rfl,if_pos ⟨hs,hd⟩]
   simp [DutyM.t]
  ·
   rw [if_neg e,if_neg]
   rintro ⟨a,b⟩
   have a:ds[i].s = s:=a
   have b:ds[i].d = d:=b
   rw [List.Nodup,List.pairwise_iff_getElem] at nd
   have hij:ds[i].key = ds[j].key:=by rw [hk,DutyM.key,a,b]
   rcases Nat.lt_or_ge i j with hl | hl
   ·
    exact nd i j (by simpa using hi) (by simpa using hj) hl (by simpa using hij)
   ·
    exact nd j i (by simpa using hj) (by simpa using hi) (by omega) (by simpa using hij.symm)
 ·
  simp only [List.any_map,List.any_eq_true,Function.comp,decide_eq_true_eq]
  exact ⟨_,List.getElem_mem hj,hs,hd⟩
theorem keys_set {ds:List DutyM} {j:Nat} (hj:j < ds.length) (A2:Option Addr) (c2:Nat) (l:List PresM) : (ds.set j ⟨ds[j].s,ds[j].d,A2,c2,l⟩).map DutyM.key = ds.map DutyM.key:=by
 refine List.ext_getElem (by simp) fun i h1 h2=>?_
 simp only [List.getElem_map,List.getElem_set]
 split
 ·
  subst j; rfl
 ·
  rfl
end Go.Proofs.YtopekilofdadnaaGreatDoor
