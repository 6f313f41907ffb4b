/- Joined texts: TgC3 TgY0. Conditions: as stated. -/
import Derived.Maps.AppendAt
import Derived.Test.YtopekilofdadnaaGreatDoorJTvN
import Derived.Test.YtopekilofdadnaaGreatDoorJTgC
import Derived.Test.YtopekilofdadnaaGreatDoorJShEv
namespace Go.Proofs.YtopekilofdadnaaGreatDoor
open Go.RowKit Go.Sort Go.Shelf
instance : Inhabited KeyT:=⟨⟨0,0⟩⟩
instance : Inhabited EvT:=⟨⟨⟨0,0⟩,0,0,0,⟨0,0⟩⟩⟩
instance : Inhabited StampT:=⟨⟨0,0,⟨0,0⟩⟩⟩
instance : Inhabited IvT:=⟨⟨0,0⟩⟩
instance : Inhabited SpT:=⟨⟨0,⟨0,0⟩⟩⟩
theorem Tot.swo {α:Type} {C:α→α→Int} (h:Tot C) : SWO (ltOf C) where
 irrefl x:=by unfold ltOf; rw [h.irr]; rfl
 trans x y z h1 h2:=by
  unfold ltOf at *
  simp only [decide_eq_true_eq] at *
  have a1:=h.vals x y
  have a2:=h.vals y z
  have:=h.trans x y z (by omega) (by omega)
  omega
 ntrans x y z h1 h2:=by
  unfold ltOf at *
  simp only [decide_eq_false_iff_not] at *
  have a1:=h.vals x y
  have a2:=h.vals y z
  have a3:=h.swap x y
  have a4:=h.swap y z
  have a5:=h.swap x z
  by_cases e1:C x y = 0
  ·
   rw [h.sub x y z e1]; exact h2
  ·
   by_cases e2:C y z = 0
   ·
    have:=h.sub y z x e2
    have:=h.swap y x
    have:=h.swap z x
    omega
   ·
    have:=h.trans z y x (by omega) (by omega)
    omega
theorem evcS (x y : EvT) (W:World) : Calls Tryz.prog 118 #[.agg (encEv x).toArray,.agg (encEv y).toArray] W fun e w'=>e = .returned (.int .i64 (evC x y))∧∃ q os',w' = grow (W.drewN q) os':=(evcC x y W).mono fun _ _ h=>⟨h.1,h.2.form⟩
theorem stcS (x y : StampT) (W:World) : Calls Tryz.prog 41 #[.agg (encSt x).toArray,.agg (encSt y).toArray] W fun e w'=>e = .returned (.int .i64 (stC x y))∧∃ q os',w' = grow (W.drewN q) os':=(stcC x y W).mono fun _ _ h=>⟨h.1,h.2.form⟩
theorem ivcS (x y : IvT) (W:World) : Calls Tryz.prog 58 #[.agg (encIv x).toArray,.agg (encIv y).toArray] W fun e w'=>e = .returned (.int .i64 (ivC x y))∧∃ q os',w' = grow (W.drewN q) os':=(ivcC x y W).mono fun _ _ h=>⟨h.1,h.2.form⟩
theorem spcS (x y : SpT) (W:World) : Calls Tryz.prog 100 #[.agg (encSp x).toArray,.agg (encSp y).toArray] W fun e w'=>e = .returned (.int .i64 (spC x y))∧∃ q os',w' = grow (W.drewN q) os':=(spcC x y W).mono fun _ _ h=>⟨h.1,h.2.form⟩
theorem only_sortEvC (w:World) (blk off n : Nat) (d:Array EvT) (os:Array Obj) : w.grownBy (sortWorldK encEv 7 w blk off n d os) (some blk):=by
 refine ⟨rfl,rfl,rfl,size_sortWorldK_c encEv 7 w blk off n d os,fun i hi hne=>?_⟩
 have hne':blk ≠ i:=fun e=>hne (by rw [e])
 have hsz:(putRowK encEv 7 (Sort.ahead w n) blk off d).heap.size = w.heap.size:=by simp [putRowK,putRow,mapBlock,Sort.ahead]
 show ((putRowK encEv 7 (Sort.ahead w n) blk off d).heap++os)[i]? = w.heap[i]?
 rw [Array.getElem?_append_left (by omega)]
 show (w.heap.modify blk _)[i]? = _
 rw [Array.getElem?_modify,if_neg hne']
set_option maxHeartbeats 1000000 in
theorem sortEvC (A:Option Addr) (cap base : Nat) (xs:List EvT) (w:World) (hown:Own encEv 7 41 w base (.slice A xs.length cap) xs) (hl:xs.length < 4611686018427387904) :
  Calls Tryz.prog 117 #[.slice A xs.length cap,.func (.func 118) #[] #[]] w fun e w'=>e = .returned (.tuple #[]) ∧
   ∃ ys:List EvT,ys.Perm xs∧ys.Pairwise (fun a b=>ltOf evC b a = false)∧SliceOf encEv 7 w' w'.heap.size A ys∧w.grownBy w' (Value.slice A xs.length cap).ownBlock:=by
 rcases hown.2 with ⟨hv,h0⟩ | ⟨g,cap',cur,hv,hb,hg,hn,hm,hs,ht⟩
 ·
  injection hv with h1 h2 h3
  obtain rfl:xs = []:=List.eq_nil_of_length_eq_zero h0
  have hcon:=AnyF.slices_SortFunc_none { Tryz.sortEv with } A cap (.func (.func 118) #[] #[]) w
  refine Calls.mono hcon fun e w' ⟨he,hw⟩=>⟨he,[],List.Perm.refl _,List.Pairwise.nil,SliceOf.nil_,by rw [hw]; exact only_refl _ _⟩
 ·
  injection hv with h1 h2 h3
  subst h1 h3
  have hgl:=(Array.getElem?_eq_some_iff.1 hg).1
  have eg:∀ args w,(callFunc 118 args).run Tryz.prog w = .ok (.enter 118 args) w:=enters_of Tryz.func118 (by kernel_rfl) rfl
  have hcmp:CmpLays Tryz.prog 118 #[] encEv 7 evC g 0 xs.toArray.size w:=fun _ _ _ _ x y=>evcS x y _
  have hH:HoldsK encEv 7 w g 0 xs.toArray:=by
   intro j hj
   rw [size_flatK] at hj
   simp only [List.size_toArray] at hj
   have hdiv:j / 7 < xs.length:=by omega
   have hmod:j % 7 < 7:=Nat.mod_lt _ (by omega)
   refine ⟨?_,by simp [World.frozen?,hg]⟩
   rw [get_flatK _ _ _ _ (by simpa using hj),Nat.zero_add,cell_of_row w g j cur _ (0,0) hg]
   have hx:xs.toArray[j / 7]! = xs[j / 7]:=by simp [hdiv]
   rw [hx]
   have hu:(encEv xs[j / 7])[j % 7]? = some ((encEv xs[j / 7])[j % 7]!):=by
    have hlt:j % 7 < (encEv xs[j / 7]).length:=by rw [encEv_len]; exact hmod
    rw [List.getElem?_eq_getElem hlt,getElem!_pos (encEv xs[j / 7]) (j % 7) hlt]
   have h1:=flatMap_at encEv_len xs (j / 7) (j % 7) _ _ (List.getElem?_eq_getElem hdiv) hu
   rw [show j / 7 * 7+j % 7 = j by omega] at h1
   rw [← ht,List.getElem?_take,if_pos (by omega)] at h1
   simpa using h1
  have hcon:=AnyQ.slices_SortFunc Tryz.sortEv 7 Tryz.isAgg41 Tryz.sizeOf41 encEv encEv_len encEv_one evC evC_tot.swo 118 #[] g 0 cap xs.toArray w eg hcmp hH hgl (by simpa using hl)
  have hcon':Calls Tryz.prog 117 #[.slice (some ⟨g,0,none⟩) xs.length cap,.func (.func 118) #[] #[]] w _:=hcon
  refine hcon'.mono ?_
  rintro e w' ⟨he,d',n,os,hp,hsd,rfl⟩
  obtain ⟨hp1,hp2,hp3⟩:=hp
  refine ⟨he,d'.toList,?_,?_,?_,only_sortEvC _ _ _ _ _ _⟩
  ·
   have e1:xs.toArray.size = xs.length:=by simp
   rw [e1] at hp1 hp3
   have e2:(d'.extract 0 xs.length) = d':=by rw [← hp1]; simp
   have e3:(xs.toArray.extract 0 xs.length) = xs.toArray:=by simp
   rw [e2,e3] at hp3
   exact hp3
  ·
   rw [List.pairwise_iff_getElem]
   intro i j hi hj hij
   have h1:=hsd i j (Nat.zero_le _) hij (by rw [← hp1]; simpa using hj)
   rw [getElem!_pos d' i (by simpa using hi),getElem!_pos d' j (by simpa using hj)] at h1
   simpa using h1
  ·
   intro _
   refine ⟨g,0,rfl,lt_sortWorldK encEv 7 w g 0 n d' os hgl,fun i x hi j u hu=>?_⟩
   have hH':=holdsK_sortWorldK_c encEv 7 w g 0 xs.toArray d' n os hH hgl hp1
   have hil:i < d'.size:=by simpa using (List.getElem?_eq_some_iff.1 hi).1
   have hjl:j < 7:=by have:=(List.getElem?_eq_some_iff.1 hu).1; rwa [encEv_len] at this
   have h1:=(hH' (i * 7+j) (by rw [size_flatK]; omega)).1
   rw [get_flatK _ _ _ _ (by omega),show (i * 7+j) / 7 = i by omega,show (i * 7+j) % 7 = j by omega,getElem!_pos d' i hil] at h1
   have hx:d'[i] = x:=by
    have:=(List.getElem?_eq_some_iff.1 hi).2
    simpa using this
   rw [hx] at h1
   have hu2:(encEv x)[j]! = u:=by
    have hlt:=(List.getElem?_eq_some_iff.1 hu).1
    rw [getElem!_pos (encEv x) j hlt]
    exact (List.getElem?_eq_some_iff.1 hu).2
   rw [hu2] at h1
   rw [Nat.zero_add]
   rw [Nat.zero_add] at h1
   exact h1
theorem only_sortStC (w:World) (blk off n : Nat) (d:Array StampT) (os:Array Obj) : w.grownBy (sortWorldK encSt 4 w blk off n d os) (some blk):=by
 refine ⟨rfl,rfl,rfl,size_sortWorldK_c encSt 4 w blk off n d os,fun i hi hne=>?_⟩
 have hne':blk ≠ i:=fun e=>hne (by rw [e])
 have hsz:(putRowK encSt 4 (Sort.ahead w n) blk off d).heap.size = w.heap.size:=by simp [putRowK,putRow,mapBlock,Sort.ahead]
 show ((putRowK encSt 4 (Sort.ahead w n) blk off d).heap++os)[i]? = w.heap[i]?
 rw [Array.getElem?_append_left (by omega)]
 show (w.heap.modify blk _)[i]? = _
 rw [Array.getElem?_modify,if_neg hne']
set_option maxHeartbeats 1000000 in
theorem sortStC (A:Option Addr) (cap base : Nat) (xs:List StampT) (w:World) (hown:Own encSt 4 127 w base (.slice A xs.length cap) xs) (hl:xs.length < 4611686018427387904) :
  Calls Tryz.prog 40 #[.slice A xs.length cap,.func (.func 41) #[] #[]] w fun e w'=>e = .returned (.tuple #[]) ∧
   ∃ ys:List StampT,ys.Perm xs∧ys.Pairwise (fun a b=>ltOf stC b a = false)∧SliceOf encSt 4 w' w'.heap.size A ys∧w.grownBy w' (Value.slice A xs.length cap).ownBlock:=by
 rcases hown.2 with ⟨hv,h0⟩ | ⟨g,cap',cur,hv,hb,hg,hn,hm,hs,ht⟩
 ·
  injection hv with h1 h2 h3
  obtain rfl:xs = []:=List.eq_nil_of_length_eq_zero h0
  have hcon:=AnyF.slices_SortFunc_none { Tryz.sortSt with } A cap (.func (.func 41) #[] #[]) w
  refine Calls.mono hcon fun e w' ⟨he,hw⟩=>⟨he,[],List.Perm.refl _,List.Pairwise.nil,SliceOf.nil_,by rw [hw]; exact only_refl _ _⟩
 ·
  injection hv with h1 h2 h3
  subst h1 h3
  have hgl:=(Array.getElem?_eq_some_iff.1 hg).1
  have eg:∀ args w,(callFunc 41 args).run Tryz.prog w = .ok (.enter 41 args) w:=enters_of Tryz.func41 (by kernel_rfl) rfl
  have hcmp:CmpLays Tryz.prog 41 #[] encSt 4 stC g 0 xs.toArray.size w:=fun _ _ _ _ x y=>stcS x y _
  have hH:HoldsK encSt 4 w g 0 xs.toArray:=by
   intro j hj
   rw [size_flatK] at hj
   simp only [List.size_toArray] at hj
   have hdiv:j / 4 < xs.length:=by omega
   have hmod:j % 4 < 4:=Nat.mod_lt _ (by omega)
   refine ⟨?_,by simp [World.frozen?,hg]⟩
   rw [get_flatK _ _ _ _ (by simpa using hj),Nat.zero_add,cell_of_row w g j cur _ (0,0) hg]
   have hx:xs.toArray[j / 4]! = xs[j / 4]:=by simp [hdiv]
   rw [hx]
   have hu:(encSt xs[j / 4])[j % 4]? = some ((encSt xs[j / 4])[j % 4]!):=by
    have hlt:j % 4 < (encSt xs[j / 4]).length:=by rw [encSt_len]; exact hmod
    rw [List.getElem?_eq_getElem hlt,getElem!_pos (encSt xs[j / 4]) (j % 4) hlt]
   have h1:=flatMap_at encSt_len xs (j / 4) (j % 4) _ _ (List.getElem?_eq_getElem hdiv) hu
   rw [show j / 4 * 4+j % 4 = j by omega] at h1
   rw [← ht,List.getElem?_take,if_pos (by omega)] at h1
   simpa using h1
  have hcon:=AnyQ.slices_SortFunc Tryz.sortSt 4 Tryz.isAgg127 Tryz.sizeOf127 encSt encSt_len encSt_one stC stC_tot.swo 41 #[] g 0 cap xs.toArray w eg hcmp hH hgl (by simpa using hl)
  have hcon':Calls Tryz.prog 40 #[.slice (some ⟨g,0,none⟩) xs.length cap,.func (.func 41) #[] #[]] w _:=hcon
  refine hcon'.mono ?_
  rintro e w' ⟨he,d',n,os,hp,hsd,rfl⟩
  obtain ⟨hp1,hp2,hp3⟩:=hp
  refine ⟨he,d'.toList,?_,?_,?_,only_sortStC _ _ _ _ _ _⟩
  ·
   have e1:xs.toArray.size = xs.length:=by simp
   rw [e1] at hp1 hp3
   have e2:(d'.extract 0 xs.length) = d':=by rw [← hp1]; simp
   have e3:(xs.toArray.extract 0 xs.length) = xs.toArray:=by simp
   rw [e2,e3] at hp3
   exact hp3
  ·
   rw [List.pairwise_iff_getElem]
   intro i j hi hj hij
   have h1:=hsd i j (Nat.zero_le _) hij (by rw [← hp1]; simpa using hj)
   rw [getElem!_pos d' i (by simpa using hi),getElem!_pos d' j (by simpa using hj)] at h1
   simpa using h1
  ·
   intro _
   refine ⟨g,0,rfl,lt_sortWorldK encSt 4 w g 0 n d' os hgl,fun i x hi j u hu=>?_⟩
   have hH':=holdsK_sortWorldK_c encSt 4 w g 0 xs.toArray d' n os hH hgl hp1
   have hil:i < d'.size:=by simpa using (List.getElem?_eq_some_iff.1 hi).1
   have hjl:j < 4:=by have:=(List.getElem?_eq_some_iff.1 hu).1; rwa [encSt_len] at this
   have h1:=(hH' (i * 4+j) (by rw [size_flatK]; omega)).1
   rw [get_flatK _ _ _ _ (by omega),show (i * 4+j) / 4 = i by omega,show (i * 4+j) % 4 = j by omega,getElem!_pos d' i hil] at h1
   have hx:d'[i] = x:=by
    have:=(List.getElem?_eq_some_iff.1 hi).2
    simpa using this
   rw [hx] at h1
   have hu2:(encSt x)[j]! = u:=by
    have hlt:=(List.getElem?_eq_some_iff.1 hu).1
    rw [getElem!_pos (encSt x) j hlt]
    exact (List.getElem?_eq_some_iff.1 hu).2
   rw [hu2] at h1
   rw [Nat.zero_add]
   rw [Nat.zero_add] at h1
   exact h1
theorem only_sortSpC (w:World) (blk off n : Nat) (d:Array SpT) (os:Array Obj) : w.grownBy (sortWorldK encSp 3 w blk off n d os) (some blk):=by
 refine ⟨rfl,rfl,rfl,size_sortWorldK_c encSp 3 w blk off n d os,fun i hi hne=>?_⟩
 have hne':blk ≠ i:=fun e=>hne (by rw [e])
 have hsz:(putRowK encSp 3 (Sort.ahead w n) blk off d).heap.size = w.heap.size:=by simp [putRowK,putRow,mapBlock,Sort.ahead]
 show ((putRowK encSp 3 (Sort.ahead w n) blk off d).heap++os)[i]? = w.heap[i]?
 rw [Array.getElem?_append_left (by omega)]
 show (w.heap.modify blk _)[i]? = _
 rw [Array.getElem?_modify,if_neg hne']
set_option maxHeartbeats 1000000 in
theorem sortSpC (A:Option Addr) (cap base : Nat) (xs:List SpT) (w:World) (hown:Own encSp 3 167 w base (.slice A xs.length cap) xs) (hl:xs.length < 4611686018427387904) :
  Calls Tryz.prog 99 #[.slice A xs.length cap,.func (.func 100) #[] #[]] w fun e w'=>e = .returned (.tuple #[]) ∧
   ∃ ys:List SpT,ys.Perm xs∧ys.Pairwise (fun a b=>ltOf spC b a = false)∧SliceOf encSp 3 w' w'.heap.size A ys∧w.grownBy w' (Value.slice A xs.length cap).ownBlock:=by
 rcases hown.2 with ⟨hv,h0⟩ | ⟨g,cap',cur,hv,hb,hg,hn,hm,hs,ht⟩
 ·
  injection hv with h1 h2 h3
  obtain rfl:xs = []:=List.eq_nil_of_length_eq_zero h0
  have hcon:=AnyF.slices_SortFunc_none { Tryz.sortSp with } A cap (.func (.func 100) #[] #[]) w
  refine Calls.mono hcon fun e w' ⟨he,hw⟩=>⟨he,[],List.Perm.refl _,List.Pairwise.nil,SliceOf.nil_,by rw [hw]; exact only_refl _ _⟩
 ·
  injection hv with h1 h2 h3
  subst h1 h3
  have hgl:=(Array.getElem?_eq_some_iff.1 hg).1
  have eg:∀ args w,(callFunc 100 args).run Tryz.prog w = .ok (.enter 100 args) w:=enters_of Tryz.func100 (by kernel_rfl) rfl
  have hcmp:CmpLays Tryz.prog 100 #[] encSp 3 spC g 0 xs.toArray.size w:=fun _ _ _ _ x y=>spcS x y _
  have hH:HoldsK encSp 3 w g 0 xs.toArray:=by
   intro j hj
   rw [size_flatK] at hj
   simp only [List.size_toArray] at hj
   have hdiv:j / 3 < xs.length:=by omega
   have hmod:j % 3 < 3:=Nat.mod_lt _ (by omega)
   refine ⟨?_,by simp [World.frozen?,hg]⟩
   rw [get_flatK _ _ _ _ (by simpa using hj),Nat.zero_add,cell_of_row w g j cur _ (0,0) hg]
   have hx:xs.toArray[j / 3]! = xs[j / 3]:=by simp [hdiv]
   rw [hx]
   have hu:(encSp xs[j / 3])[j % 3]? = some ((encSp xs[j / 3])[j % 3]!):=by
    have hlt:j % 3 < (encSp xs[j / 3]).length:=by rw [encSp_len]; exact hmod
    rw [List.getElem?_eq_getElem hlt,getElem!_pos (encSp xs[j / 3]) (j % 3) hlt]
   have h1:=flatMap_at encSp_len xs (j / 3) (j % 3) _ _ (List.getElem?_eq_getElem hdiv) hu
   rw [show j / 3 * 3+j % 3 = j by omega] at h1
   rw [← ht,List.getElem?_take,if_pos (by omega)] at h1
   simpa using h1
  have hcon:=AnyQ.slices_SortFunc Tryz.sortSp 3 Tryz.isAgg167 Tryz.sizeOf167 encSp encSp_len encSp_one spC spC_tot.swo 100 #[] g 0 cap xs.toArray w eg hcmp hH hgl (by simpa using hl)
  have hcon':Calls Tryz.prog 99 #[.slice (some ⟨g,0,none⟩) xs.length cap,.func (.func 100) #[] #[]] w _:=hcon
  refine hcon'.mono ?_
  rintro e w' ⟨he,d',n,os,hp,hsd,rfl⟩
  obtain ⟨hp1,hp2,hp3⟩:=hp
  refine ⟨he,d'.toList,?_,?_,?_,only_sortSpC _ _ _ _ _ _⟩
  ·
   have e1:xs.toArray.size = xs.length:=by simp
   rw [e1] at hp1 hp3
   have e2:(d'.extract 0 xs.length) = d':=by rw [← hp1]; simp
   have e3:(xs.toArray.extract 0 xs.length) = xs.toArray:=by simp
   rw [e2,e3] at hp3
   exact hp3
  ·
   rw [List.pairwise_iff_getElem]
   intro i j hi hj hij
   have h1:=hsd i j (Nat.zero_le _) hij (by rw [← hp1]; simpa using hj)
   rw [getElem!_pos d' i (by simpa using hi),getElem!_pos d' j (by simpa using hj)] at h1
   simpa using h1
  ·
   intro _
   refine ⟨g,0,rfl,lt_sortWorldK encSp 3 w g 0 n d' os hgl,fun i x hi j u hu=>?_⟩
   have hH':=holdsK_sortWorldK_c encSp 3 w g 0 xs.toArray d' n os hH hgl hp1
   have hil:i < d'.size:=by simpa using (List.getElem?_eq_some_iff.1 hi).1
   have hjl:j < 3:=by have:=(List.getElem?_eq_some_iff.1 hu).1; rwa [encSp_len] at this
   have h1:=(hH' (i * 3+j) (by rw [size_flatK]; omega)).1
   rw [get_flatK _ _ _ _ (by omega),show (i * 3+j) / 3 = i by omega,show (i * 3+j) % 3 = j by omega,getElem!_pos d' i hil] at h1
   have hx:d'[i] = x:=by
    have:=(List.getElem?_eq_some_iff.1 hi).2
    simpa using this
   rw [hx] at h1
   have hu2:(encSp x)[j]! = u:=by
    have hlt:=(List.getElem?_eq_some_iff.1 hu).1
    rw [getElem!_pos (encSp x) j hlt]
    exact (List.getElem?_eq_some_iff.1 hu).2
   rw [hu2] at h1
   rw [Nat.zero_add]
   rw [Nat.zero_add] at h1
   exact h1
end Go.Proofs.YtopekilofdadnaaGreatDoor
namespace Go.Proofs.YtopekilofdadnaaGreatDoor
open Go.RowKit Go.Sort Go.Shelf
theorem rowK_sort {α:Type} [Inhabited α] (enc:α→List Value) (k:Nat) (w:World) (g n : Nat) (d:Array α) (os:Array Obj) {cur:Array Value} {e:TypeId} (hg:w.heap[g]? = some (.cells cur e (0,0))) :
  ∃ cs',cs'.size = cur.size∧(sortWorldK enc k w g 0 n d os).heap[g]? = some (.cells cs' e (0,0)):=by
 have hlt:g < w.heap.size:=(Array.getElem?_eq_some_iff.1 hg).1
 refine ⟨putCells id 0 (flatK enc k d) cur,by simp [putCells],?_⟩
 unfold sortWorldK grow putRowK putRow mapBlock
 simp only [Sort.ahead]
 rw [Array.getElem?_append_left (by simpa using hlt)]
 simp [Array.getElem?_modify,hg,onCells]
theorem own_sorted {α:Type} {enc:α→List Value} {k:Nat} (hk : ∀ x,(enc x).length = k) {w' : World} {base g cap : Nat} {e:TypeId} {xs ys : List α} {cur cs' : Array Value} (hxy:ys.length = xs.length) (hb:base≤g) (hn:xs.length≤cap) (hm:cap≤maxLen) (hs:cur.size = cap * k)
  (hsz:cs'.size = cur.size) (hrow:w'.heap[g]? = some (.cells cs' e (0,0))) (hS:SliceOf enc k w' w'.heap.size (some ⟨g,0,none⟩) ys) : Own enc k e w' base (.slice (some ⟨g,0,none⟩) xs.length cap) ys:=by
 have hl:(ys.flatMap enc).length = ys.length * k:=by
  clear hxy hS
  induction ys with
  | nil=>simp
  | cons y ys ih=>rw [List.flatMap_cons,List.length_append,ih,hk,List.length_cons,Nat.succ_mul]; omega
 refine ⟨hl,.inr ⟨g,cap,cs',by rw [hxy],hb,hrow,by omega,hm,by rw [hsz]; exact hs,?_⟩⟩
 have hle:ys.length * k≤cap * k:=Nat.mul_le_mul_right k (by omega)
 refine List.ext_getElem (by simp only [List.length_take,hl,Array.length_toList,hsz,hs]; exact Nat.min_eq_left hle) fun j h1 h2=>?_
 have hj:j < ys.length * k:=by rw [← hl]; exact h2
 have hk0:0 < k:=by
  rcases Nat.eq_zero_or_pos k with h | h
  ·
   subst h; omega
  ·
   exact h
 have hi':j / k < ys.length:=Nat.div_lt_of_lt_mul (by rw [Nat.mul_comm]; exact hj)
 have hmod:j % k < k:=Nat.mod_lt _ hk0
 obtain ⟨b,off,hA,_,hc⟩:=hS.at_ hi'
 injection hA with hA
 injection hA with hA1 hA2
 subst hA1 hA2
 have he : (enc ys[j / k])[j % k]? = some ((enc ys[j / k])[j % k]'(by rw [hk]; exact hmod)) := List.getElem?_eq_getElem _
 have h3:=hc _ _ he
 have h4:j / k * k+j % k = j:=by rw [Nat.mul_comm]; exact Nat.div_add_mod j k
 have h5:=flatMap_at hk ys (j / k) (j % k) _ _ (List.getElem?_eq_getElem hi') he
 rw [h4] at h5
 rw [Nat.add_assoc,h4,Nat.zero_add,cell_of_row w' g j cs' e (0,0) hrow] at h3
 have h6:(ys.flatMap enc)[j]? = some (ys.flatMap enc)[j]:=List.getElem?_eq_getElem h2
 rw [h6] at h5
 have hjc:j < cs'.size:=by rw [hsz,hs]; omega
 rw [Array.getElem?_eq_getElem hjc] at h3
 rw [List.getElem_take,Array.getElem_toList]
 have e3:=Option.some.inj h3
 have e5:=Option.some.inj h5
 rw [e3,e5]
section
set_option maxHeartbeats 4000000
set_option maxRecDepth 100000
theorem only_sortIvO (w:World) (blk off n : Nat) (d:Array IvT) (os:Array Obj) : w.grownBy (sortWorldK encIv 2 w blk off n d os) (some blk):=by
 refine ⟨rfl,rfl,rfl,size_sortWorldK_c encIv 2 w blk off n d os,fun i hi hne=>?_⟩
 have hne':blk ≠ i:=fun e=>hne (by rw [e])
 have hsz:(putRowK encIv 2 (Sort.ahead w n) blk off d).heap.size = w.heap.size:=by simp [putRowK,putRow,mapBlock,Sort.ahead]
 show ((putRowK encIv 2 (Sort.ahead w n) blk off d).heap++os)[i]? = w.heap[i]?
 rw [Array.getElem?_append_left (by omega)]
 show (w.heap.modify blk _)[i]? = _
 rw [Array.getElem?_modify,if_neg hne']
set_option maxHeartbeats 1000000 in
theorem sortIvO (A:Option Addr) (cap base : Nat) (xs:List IvT) (w:World) (hown:Own encIv 2 34 w base (.slice A xs.length cap) xs) (hl:xs.length < 4611686018427387904) :
  Calls Tryz.prog 57 #[.slice A xs.length cap,.func (.func 58) #[] #[]] w fun e w'=>e = .returned (.tuple #[]) ∧
   ∃ ys:List IvT,ys.Perm xs∧ys.Pairwise (fun a b=>ltOf ivC b a = false)∧SliceOf encIv 2 w' w'.heap.size A ys∧w.grownBy w' (Value.slice A xs.length cap).ownBlock∧Own encIv 2 34 w' base (.slice A xs.length cap) ys:=by
 rcases hown.2 with ⟨hv,h0⟩ | ⟨g,cap',cur,hv,hb,hg,hn,hm,hs,ht⟩
 ·
  injection hv with h1 h2 h3
  obtain rfl:xs = []:=List.eq_nil_of_length_eq_zero h0
  have hcon:=AnyF.slices_SortFunc_none { Tryz.sortIv with } A cap (.func (.func 58) #[] #[]) w
  refine Calls.mono hcon fun e w' ⟨he,hw⟩=>⟨he,[],List.Perm.refl _,List.Pairwise.nil,SliceOf.nil_,by rw [hw]; exact only_refl _ _,by rw [hw]; exact hown⟩
 ·
  injection hv with h1 h2 h3
  subst h1 h3
  have hgl:=(Array.getElem?_eq_some_iff.1 hg).1
  have eg:∀ args w,(callFunc 58 args).run Tryz.prog w = .ok (.enter 58 args) w:=enters_of Tryz.func58 (by kernel_rfl) rfl
  have hcmp:CmpLays Tryz.prog 58 #[] encIv 2 ivC g 0 xs.toArray.size w:=fun _ _ _ _ x y=>ivcS x y _
  have hH:HoldsK encIv 2 w g 0 xs.toArray:=by
   intro j hj
   rw [size_flatK] at hj
   simp only [List.size_toArray] at hj
   have hdiv:j / 2 < xs.length:=by omega
   have hmod:j % 2 < 2:=Nat.mod_lt _ (by omega)
   refine ⟨?_,by simp [World.frozen?,hg]⟩
   rw [get_flatK _ _ _ _ (by simpa using hj),Nat.zero_add,cell_of_row w g j cur _ (0,0) hg]
   have hx:xs.toArray[j / 2]! = xs[j / 2]:=by simp [hdiv]
   rw [hx]
   have hu:(encIv xs[j / 2])[j % 2]? = some ((encIv xs[j / 2])[j % 2]!):=by
    have hlt:j % 2 < (encIv xs[j / 2]).length:=by rw [encIv_len]; exact hmod
    rw [List.getElem?_eq_getElem hlt,getElem!_pos (encIv xs[j / 2]) (j % 2) hlt]
   have h1:=flatMap_at encIv_len xs (j / 2) (j % 2) _ _ (List.getElem?_eq_getElem hdiv) hu
   rw [show j / 2 * 2+j % 2 = j by omega] at h1
   rw [← ht,List.getElem?_take,if_pos (by omega)] at h1
   simpa using h1
  have hcon:=AnyQ.slices_SortFunc Tryz.sortIv 2 Tryz.isAgg34 Tryz.sizeOf34 encIv encIv_len encIv_one ivC ivC_tot.swo 58 #[] g 0 cap xs.toArray w eg hcmp hH hgl (by simpa using hl)
  have hcon':Calls Tryz.prog 57 #[.slice (some ⟨g,0,none⟩) xs.length cap,.func (.func 58) #[] #[]] w _:=hcon
  refine hcon'.mono ?_
  rintro e w' ⟨he,d',n,os,hp,hsd,rfl⟩
  obtain ⟨hp1,hp2,hp3⟩:=hp
  refine ⟨he,d'.toList,?_,?_,?_,only_sortIvO _ _ _ _ _ _,?_⟩
  ·
   have e1:xs.toArray.size = xs.length:=by simp
   rw [e1] at hp1 hp3
   have e2:(d'.extract 0 xs.length) = d':=by rw [← hp1]; simp
   have e3:(xs.toArray.extract 0 xs.length) = xs.toArray:=by simp
   rw [e2,e3] at hp3
   exact hp3
  ·
   rw [List.pairwise_iff_getElem]
   intro i j hi hj hij
   have h1:=hsd i j (Nat.zero_le _) hij (by rw [← hp1]; simpa using hj)
   rw [getElem!_pos d' i (by simpa using hi),getElem!_pos d' j (by simpa using hj)] at h1
   simpa using h1
  ·
   intro _
   refine ⟨g,0,rfl,lt_sortWorldK encIv 2 w g 0 n d' os hgl,fun i x hi j u hu=>?_⟩
   have hH':=holdsK_sortWorldK_c encIv 2 w g 0 xs.toArray d' n os hH hgl hp1
   have hil:i < d'.size:=by simpa using (List.getElem?_eq_some_iff.1 hi).1
   have hjl:j < 2:=by have:=(List.getElem?_eq_some_iff.1 hu).1; rwa [encIv_len] at this
   have h1:=(hH' (i * 2+j) (by rw [size_flatK]; omega)).1
   rw [get_flatK _ _ _ _ (by omega),show (i * 2+j) / 2 = i by omega,show (i * 2+j) % 2 = j by omega,getElem!_pos d' i hil] at h1
   have hx:d'[i] = x:=by
    have:=(List.getElem?_eq_some_iff.1 hi).2
    simpa using this
   rw [hx] at h1
   have hu2:(encIv x)[j]! = u:=by
    have hlt:=(List.getElem?_eq_some_iff.1 hu).1
    rw [getElem!_pos (encIv x) j hlt]
    exact (List.getElem?_eq_some_iff.1 hu).2
   rw [hu2] at h1
   rw [Nat.zero_add]
   rw [Nat.zero_add] at h1
   exact h1
  ·
   have hSL:SliceOf encIv 2 (sortWorldK encIv 2 w g 0 n d' os) (sortWorldK encIv 2 w g 0 n d' os).heap.size (some ⟨g,0,none⟩) d'.toList:=by
    intro _
    refine ⟨g,0,rfl,lt_sortWorldK encIv 2 w g 0 n d' os hgl,fun i x hi j u hu=>?_⟩
    have hH':=holdsK_sortWorldK_c encIv 2 w g 0 xs.toArray d' n os hH hgl hp1
    have hil:i < d'.size:=by simpa using (List.getElem?_eq_some_iff.1 hi).1
    have hjl:j < 2:=by have:=(List.getElem?_eq_some_iff.1 hu).1; rwa [encIv_len] at this
    have h1:=(hH' (i * 2+j) (by rw [size_flatK]; omega)).1
    rw [get_flatK _ _ _ _ (by omega),show (i * 2+j) / 2 = i by omega,show (i * 2+j) % 2 = j by omega,getElem!_pos d' i hil] at h1
    have hx:d'[i] = x:=by
     have:=(List.getElem?_eq_some_iff.1 hi).2
     simpa using this
    rw [hx] at h1
    have hu2:(encIv x)[j]! = u:=by
     have hlt:=(List.getElem?_eq_some_iff.1 hu).1
     rw [getElem!_pos (encIv x) j hlt]
     exact (List.getElem?_eq_some_iff.1 hu).2
    rw [hu2] at h1
    rw [Nat.zero_add]
    rw [Nat.zero_add] at h1
    exact h1
   obtain ⟨cs',hsz,hrow⟩:=rowK_sort encIv 2 w g n d' os hg
   exact own_sorted encIv_len (by simpa using hp1) hb hn hm hs hsz hrow hSL
end
theorem wpList_append_list_at {P:Program} {α:Type} {enc:α→List Value} {k:Nat} {e:TypeId} {W:World} {base B : Nat} {v:Value} {xs ys : List α} {A:Option Addr}
  {ops:Array Oper} {rest:List Oper} {o:Oper} {a:Act} {Q:Exit→Act→World→Prop} {m:Nat} (s x:Operand) (t:TypeId) (c bytes:Nat) (z:Value)
  (hinfo:(P.info? e).map (fun i=>(i.zero,i.size,i.bytes)) = some (some z,k,bytes)) (ht:P.underlying t = some (.slice e))
  (hown:Own enc k e W base v xs) (hys:SliceOf enc k W B A ys) (hk:∀ x,(enc x).length = k) (hk0:0 < k) (hzs:z.cells.size = k) (h1:∀ y,∀ u ∈ enc y,u.oneCell' = true)
  (hlen:xs.length+ys.length≤4294967296) (hby:bytes≤1024) (hbase:base≤W.heap.size)
  (hgd:o.guard = none) (ho:o.op = .call { callee:=.builtin .append,args:=#[s,x],argTypes:=#[t,t] })
  (hs:a.eval s = v) (hx:a.eval x = .slice A m c) (hm:m = ys.length)
  (h:∀ v' w',Own enc k e w' base v' (xs++ys)→W.grownBy w' v.ownBlock→(v'.ownBlock = v.ownBlock ∨ v'.ownBlock = some W.heap.size)→wpList P ops Q rest (a.put o.dst v') w') :
  wpList P ops Q (o :: rest) a W:=by
 subst hm
 obtain ⟨i,hi,hz,hsz,hb⟩:=info_parts hinfo
 have hl:(ys.flatMap enc).length = ys.length * k:=by
  clear hys hx h hlen
  induction ys with
  | nil=>simp
  | cons y ys ih=>rw [List.flatMap_cons,List.length_append,ih,hk,List.length_cons,Nat.succ_mul]; omega
 have hcells:∀ ad,A = some ad→∀ j u,(ys.flatMap enc)[j]? = some u→W.cell? (ad.add j) = some u:=by
  intro ad hA j u hu
  have hj:j < ys.length * k:=by rw [← hl]; exact (List.getElem?_eq_some_iff.1 hu).1
  have hne:ys ≠ []:=by intro e; subst e; simp at hj
  obtain ⟨b,off,hA',hb,hc⟩:=hys hne
  rw [hA'] at hA
  injection hA with hA
  subst hA
  have hadd:(⟨b,off,none⟩ : Addr).add j = ⟨b,off+j,none⟩:=by unfold Addr.add; split <;> simp_all
  rw [hadd]
  have hi':j / k < ys.length:=Nat.div_lt_of_lt_mul (by rw [Nat.mul_comm]; exact hj)
  have hmod:j % k < k:=Nat.mod_lt _ hk0
  have hy:=List.getElem?_eq_getElem hi'
  have he : (enc ys[j / k])[j % k]? = some ((enc ys[j / k])[j % k]'(by rw [hk]; exact hmod)) := List.getElem?_eq_getElem _
  have h2:=flatMap_at hk ys (j / k) (j % k) _ _ hy he
  have h3:=hc _ _ hy _ _ he
  have h4:j / k * k+j % k = j:=by rw [Nat.mul_comm]; exact Nat.div_add_mod j k
  rw [h4,hu] at h2
  rw [Nat.add_assoc,h4] at h3
  rw [h3,← h2]
 have hbb:(xs.length+ys.length) * bytes≤140737488355328:=by
  have:(xs.length+ys.length) * bytes≤4294967296 * 1024:=Nat.mul_le_mul hlen hby
  omega
 have h1':∀ u ∈ ys.flatMap enc,u.oneCell' = true:=by
  intro u hu
  obtain ⟨y,_,hy⟩:=List.mem_flatMap.1 hu
  exact h1 y u hy
 rcases A with _ | ad
 ·
  have hy0:ys = []:=by
   rcases ys with _ | ⟨y,ys⟩
   ·
    rfl
   ·
    obtain ⟨b,off,hA,_⟩:=hys (by simp)
    cases hA
  subst hy0
  have hrun:=run_append_of_nil (P:=P) W base t o.type e i k ht hi v xs.length (xs.flatMap enc) hown c
  refine wpList_plain hgd fun K hK=>?_
  unfold Oper.wp execOp
  simp only [List.length_nil] at hx
  simp only [ho,resolve,invoke,builtin,Sem.run_bind,Sem.run_pure,Result.andThen_ok,List.map_toArray,List.map_cons,List.map_nil,hs,hx,hrun]
  exact hK _ _ (h v W (by simpa using hown) (only_refl _ _) (.inl rfl))
 ·
  refine wpList_append_own_at _ hgd s x t ho base e i z k bytes ht hi hz hsz hb hzs hk0 v xs.length (xs.flatMap enc) hs hown ad ys.length c (ys.flatMap enc) hx hl (hcells ad rfl) h1'
   (by unfold maxLen; omega) hbb hbase ?_
  intro v' w' h2 h3 _ h5
  refine h v' w' ?_ h3 h5
  unfold Own
  rw [List.length_append,List.flatMap_append]
  exact h2
end Go.Proofs.YtopekilofdadnaaGreatDoor
