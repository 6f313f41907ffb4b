/- Joined texts: Stab AlcW. Conditions: as stated. -/
import Derived.Shelf.SlGeneric
import Derived.Shelf.SlSortCmp.Insertion1
import Derived.Test.YtlhkojcmcmkmaaaGreatJData
import Derived.Test.YtlhkojcmcmkmaaaGreatJElem
import Derived.Test.YtlhkojcmcmkmaaaGreatJAlc
import Derived.Test.YtlhkojcmcmkmaaaGreatJMix2
import Derived.Test.YtlhkojcmcmkmaaaGreatJStabP
import Derived.Test.YtlhkojcmcmkmaaaGreatJP29b
namespace Go.Proofs.YtlhkojcmcmkmaaaGreat
open Go.RowKit Go.Sort Go.Shelf
def stab_ren : Go.Shelf.Ren:=⟨fun | 20=>257 | n=>n,fun | 0=>0 | 3=>3 | 4=>4 | 22=>34 | 24=>3 | 25=>22 | n=>n,fun n=>n⟩
theorem stab_lay : Go.Proofs.SlLaysF.n20 Tryz.prog stab_ren:={
 mixed:=by kernel_rfl
 f20:=⟨Tryz.f257.name,by decide,Tryz.func257.trans (congrArg some (by kernel_rfl))⟩
 t0:=Tryz.underlying0
 a0:=Tryz.isAgg0
 z0:=Tryz.sizeOf0
 v0:=Tryz.zeroValue0
 t3:=Tryz.underlying3
 a3:=Tryz.isAgg3
 z3:=Tryz.sizeOf3
 v3:=Tryz.zeroValue3
 t4:=Tryz.underlying4
 a4:=Tryz.isAgg4
 z4:=Tryz.sizeOf4
 v4:=Tryz.zeroValue4
 t22:=Tryz.underlying34
 a22:=Tryz.isAgg34
 z22:=Tryz.sizeOf34
 v22:=Tryz.zeroValue34
 a24:=Tryz.isAgg3
 z24:=Tryz.sizeOf3
 t25:=Tryz.underlying22
 a25:=Tryz.isAgg22
 z25:=Tryz.sizeOf22
 v25:=Tryz.zeroValue22 }
def encF {m:Nat} (i:Fin (m+1)) : Value:=.int .i64 (i.val : Int)
def valsF {m:Nat} (xs:List (Fin (m+1))) : List Int:=xs.map fun i=>(i.val : Int)
theorem RowI.holds {m:Nat} {w:World} {g:Nat} {xs:List (Fin (m+1))} (h:RowI w g (valsF xs)) : Holds encF w g 0 xs.toArray:=fun j hj=>by
 have hj':j < xs.length:=by simpa using hj
 have h1:=h.cell (i:=j) (by simpa [valsF] using hj')
 rw [Nat.zero_add]
 refine ⟨?_,h.frozen j⟩
 rw [h1,getElem!_pos _ j hj]
 simp [valsF,encF,List.getD_eq_getElem?_getD,List.getElem?_map,List.getElem?_eq_getElem hj']
theorem RowI.sorted {m:Nat} {w:World} {g:Nat} {xs ys : List (Fin (m+1))} (h:RowI w g (valsF xs)) (hl:ys.length = xs.length) : RowI (putRow encF w g 0 ys.toArray) g (valsF ys)∧w.grownBy (putRow encF w g 0 ys.toArray) (some g):=by
 obtain ⟨c,h1,h2,h3⟩:=h
 refine ⟨⟨putCells encF 0 ys.toArray c,?_,?_,fun i hi=>?_⟩,⟨rfl,rfl,rfl,by simp,fun i hi hne=>?_⟩⟩
 ·
  show (w.heap.modify g _)[g]? = _
  rw [Array.getElem?_modify,if_pos rfl,h1]; rfl
 ·
  simp only [putCells,Array.size_mapIdx,h2]
  simp [valsF,hl]
 ·
  have hi':i < ys.length:=by simpa [valsF] using hi
  have hc:=h3 i (by simp [valsF]; omega)
  simp only [putCells,Array.getElem?_mapIdx,hc,Option.map_some]
  rw [if_pos ⟨Nat.zero_le _,by simpa using hi'⟩,Nat.sub_zero,getElem!_pos _ i (by simpa using hi')]
  simp [valsF,encF,List.getD_eq_getElem?_getD,List.getElem?_map,List.getElem?_eq_getElem hi']
 ·
  have hne':¬ g = i:=fun e=>hne (by rw [e])
  show (w.heap.modify g _)[i]? = _
  rw [Array.getElem?_modify,if_neg hne']
theorem only_sortWorld {α:Type} [Inhabited α] (enc:α→Value) (w:World) (blk off m : Nat) (d:Array α) (os:Array Obj) : w.grownBy (sortWorld enc w blk off m d os) (some blk):=by
 refine ⟨rfl,rfl,rfl,?_,fun i hi hne=>?_⟩
 ·
  show w.heap.size≤((putRow enc (Sort.ahead w m) blk off d).heap++os).size
  rw [Array.size_append,size_putRow]
  exact Nat.le_add_right _ _
 ·
  have hne':blk ≠ i:=fun e=>hne (by rw [e])
  show ((putRow enc (Sort.ahead w m) blk off d).heap++os)[i]? = w.heap[i]?
  rw [Array.getElem?_append_left (by rw [size_putRow]; exact hi)]
  show (w.heap.modify blk _)[i]? = _
  rw [Array.getElem?_modify,if_neg hne']
theorem below_sortWorld {α:Type} [Inhabited α] (enc:α→Value) (w:World) (blk off m : Nat) (d:Array α) (os:Array Obj) : Below (putRow enc w blk off d).heap.size (putRow enc w blk off d) (sortWorld enc w blk off m d os):=by
 refine ⟨rfl,rfl,rfl,?_,fun i hi=>?_⟩
 ·
  show _≤((putRow enc (Sort.ahead w m) blk off d).heap++os).size
  rw [Array.size_append]
  exact Nat.le_add_right _ _
 ·
  show ((putRow enc (Sort.ahead w m) blk off d).heap++os)[i]? = _
  rw [Array.getElem?_append_left (by simpa using hi)]
  rfl
set_option maxRecDepth 100000 in
set_option maxHeartbeats 2000000 in
theorem stable_core {m:Nat} (cf:Fin (m+1)→Fin (m+1)→Int) (f:Nat) (cb:Array Value) (g cap : Nat) (xs:List (Fin (m+1))) (w:World) (hx:xs.Pairwise (fun a b=>a.val < b.val)) (hS:SWO (ltOf cf))
  (eg:∀ args w,(callFunc f args).run Tryz.prog w = .ok (.enter f args) w) (hcmp:CmpLays1 Tryz.prog f cb encF cf g 0 xs.length w) (hH:Holds encF w g 0 xs.toArray) (hgl:g < w.heap.size) (h20:xs.length < 20) :
  Calls Tryz.prog 207 #[.slice (some ⟨g,0,none⟩) xs.length cap,.func (.func f) #[] cb] w fun e w'=>e = .returned (.tuple #[]) ∧
   ∃ (ys:List (Fin (m+1))) (k:Nat) (os:Array Obj),ys.Perm xs∧ys.Pairwise (fun a b=>ltS (ltOf cf) (·.val) a b = true)∧w' = sortWorld encF w g 0 k ys.toArray os:=by
 have hins:=Any.insertionSortCmpFunc_s stab_lay encF cf f cb g 0 cap 0 xs.length xs.toArray xs.toArray w w eg (by simpa using hcmp) ⟨fun _=>rfl,hH,hgl⟩ rfl ⟨0,#[],by rw [sortWorld_none]; exact (putRow_self _ _ _ _ _ hH).symm⟩ (Nat.zero_le _) (by simp) (by simp; omega)
 obtain ⟨ys,hy1,hy2,hy3⟩:=stable_holds (lt:=ltOf cf) (idx:=fun i=>i.val) hS (fun a b h=>Fin.ext h) xs hx
 have hya:insertionSort (ltOf cf) xs.toArray 0 xs.length = ys.toArray:=by rw [← hy1]
 rw [hya] at hins
 simp only [List.size_toArray] at hins
 have HO:Hid (ys.Perm xs∧ys.Pairwise (fun a b=>ltS (ltOf cf) (·.val) a b = true)):=⟨hy2,hy3⟩
 clear hy1 hy2 hy3 hya hH hcmp hS hx
 have HI:Hid (Calls Tryz.prog 257 #[.slice (some ⟨g,0,none⟩) xs.length cap,.int .i64 0,.int .i64 xs.length,.func (.func f) #[] cb] w fun e w'=>e = .returned (.tuple #[])∧∃ (n:Nat) (os:Array Obj),w' = sortWorld encF w g 0 n ys.toArray os):=hins.mono fun _ _ ⟨he,n,os,hw⟩=>⟨he,n,os,hw⟩
 clear hins
 obtain ⟨srt,hsrt⟩ : ∃ srt,srt = ys.toArray:=⟨_,rfl⟩
 rw [← hsrt] at HI
 obtain ⟨n,hn⟩ : ∃ n,xs.length = n:=⟨_,rfl⟩
 rw [hn] at HI h20 ⊢
 have HSRT:=Lib.hid hsrt
 clear hn hsrt
 have hst:Calls Tryz.prog 230 #[.slice (some ⟨g,0,none⟩) n cap,.int .i64 n,.func (.func f) #[] cb] w fun e w'=>e = .returned (.tuple #[])∧∃ (k:Nat) (os:Array Obj),w' = sortWorld encF w g 0 k srt os:=by
  go_enter Tryz.func230,Tryz.ntmps230
  have hd1:decide ((20:Int)≤(n:Int)) = false:=by rw [decide_eq_false_iff_not]; omega
  have hd2:decide ((20:Int) < (n:Int)) = false:=by rw [decide_eq_false_iff_not]; omega
  go_wp2
  refine wp_loop_rounds 1 ?_
  rw [rounds_succ]
  go_wp2_with fail
  refine Calls.mono HI.out ?_
  rintro e w1 ⟨rfl,k,os,rfl⟩
  go_wp2
  refine wp_loop_rounds 1 ?_
  rw [rounds_succ]
  go_wp2
  go_end0
  exact ⟨rfl,k,os,rfl⟩
 go_enter Tryz.func207,Tryz.ntmps207
 go_wp2_with fail
 refine hst.mono ?_
 rintro e w1 ⟨rfl,k,os,rfl⟩
 go_wp2
 go_end0
 exact ⟨rfl,ys,k,os,HO.out.1,HO.out.2,by rw [HSRT.out]⟩
theorem stable_any {m:Nat} (cf:Fin (m+1)→Fin (m+1)→Int) (f:Nat) (cb:Array Value) (g cap : Nat) (xs:List (Fin (m+1))) (w:World) (hx:xs.Pairwise (fun a b=>a.val < b.val)) (hS:SWO (ltOf cf))
  (eg:∀ args w,(callFunc f args).run Tryz.prog w = .ok (.enter f args) w) (hcmp:CmpLays1 Tryz.prog f cb encF cf g 0 xs.length w) (hR:RowI w g (valsF xs)) (h20:xs.length < 20) :
  Calls Tryz.prog 207 #[.slice (some ⟨g,0,none⟩) xs.length cap,.func (.func f) #[] cb] w fun e w'=>e = .returned (.tuple #[]) ∧
   ∃ ys:List (Fin (m+1)),ys.Perm xs∧ys.Pairwise (fun a b=>ltS (ltOf cf) (·.val) a b = true)∧RowI w' g (valsF ys)∧w.grownBy w' (some g) :=
 (stable_core cf f cb g cap xs w hx hS eg hcmp hR.holds hR.lt h20).mono fun e w' ⟨he,ys,k,os,h1,h2,h3⟩=>⟨he,ys,h1,h2,by rw [h3]; exact (hR.sorted h1.length_eq).1.adv (below_sortWorld _ _ _ _ _ _ _),by rw [h3]; exact only_sortWorld _ _ _ _ _ _ _⟩
theorem Own.holdsF {m:Nat} {w:World} {g cap base : Nat} {xs:List (Fin (m+1))} (h:Own encI 1 3 w base (.slice (some ⟨g,0,none⟩) xs.length cap) (valsF xs)) : Holds encF w g 0 xs.toArray:=fun j hj=>by
 have hj':j < xs.length:=by simpa using hj
 have hv:j < (valsF xs).length:=by simpa [valsF] using hj'
 obtain ⟨g',cap',hk,_,_,hf,_⟩:=h.known (by intro e; rw [e] at hv; simp at hv)
 injection hk with hk1
 injection hk1 with hk1
 injection hk1 with hk1
 subst hk1
 obtain ⟨A,c,hk,hS,_⟩:=h.form (fun _=>rfl)
 injection hk with hk1
 subst hk1
 obtain ⟨b,off,hA,_,hc⟩:=hS.at_ hv
 injection hA with hA
 injection hA with hA1 hA2
 subst hA1 hA2
 have c0:=hc 0 _ rfl
 simp only [Nat.zero_add,Nat.mul_one,Nat.add_zero] at c0
 rw [Nat.zero_add]
 refine ⟨?_,hf j⟩
 rw [c0,getElem!_pos _ j hj]
 simp [valsF,encF]
theorem Own.sortedF {m:Nat} {w:World} {g cap base : Nat} {xs ys : List (Fin (m+1))} (h:Own encI 1 3 w base (.slice (some ⟨g,0,none⟩) xs.length cap) (valsF xs)) (hl:ys.length = xs.length) : Own encI 1 3 (putRow encF w g 0 ys.toArray) base (.slice (some ⟨g,0,none⟩) ys.length cap) (valsF ys)∧w.grownBy (putRow encF w g 0 ys.toArray) (some g):=by
 have hvl:(valsF ys).length = ys.length:=by simp [valsF]
 have hfl:∀ zs:List (Fin (m+1)),(valsF zs).flatMap encI = zs.map encF:=fun zs=>by
  induction zs with
  | nil=>rfl
  | cons a zs ih=>simp only [valsF,List.map_cons,List.flatMap_cons] at ih ⊢; rw [ih]; rfl
 refine ⟨⟨by rw [hfl,hvl]; simp,?_⟩,⟨rfl,rfl,rfl,by simp,fun i hi hne=>?_⟩⟩
 ·
  rcases h.2 with ⟨hk,_⟩ | ⟨g',cap',cur,hk,hb,hg,hn,hm,hs,ht⟩
  ·
   cases hk
  ·
   injection hk with hk1 _ hk3
   injection hk1 with hk1
   injection hk1 with hk1
   subst hk1 hk3
   have hxl:(valsF xs).length = xs.length:=by simp [valsF]
   rw [hxl] at hn
   refine .inr ⟨g,cap,putCells encF 0 ys.toArray cur,by rw [hvl],hb,?_,by rw [hvl]; omega,hm,by simpa [putCells] using hs,?_⟩
   ·
    show (w.heap.modify g _)[g]? = _
    rw [Array.getElem?_modify,if_pos rfl,hg]; rfl
   ·
    rw [hfl,hvl,Nat.mul_one]
    apply List.ext_getElem?
    intro i
    rw [List.getElem?_take,List.getElem?_map]
    by_cases hi:i < ys.length
    ·
     have hic:i < cur.size:=by omega
     rw [if_pos hi]
     simp only [Array.getElem?_toList,putCells,Array.getElem?_mapIdx,Array.getElem?_eq_getElem hic,Option.map_some]
     rw [if_pos ⟨Nat.zero_le _,by simpa using hi⟩,Nat.sub_zero,getElem!_pos _ i (by simpa using hi),List.getElem?_eq_getElem hi]
     simp
    ·
     rw [if_neg hi,List.getElem?_eq_none (by omega)]; rfl
 ·
  have hne':¬ g = i:=fun e=>hne (by rw [e])
  show (w.heap.modify g _)[i]? = _
  rw [Array.getElem?_modify,if_neg hne']
set_option maxRecDepth 100000 in
set_option maxHeartbeats 1000000 in
theorem stable_nil (f:Nat) (cb:Array Value) (A:Option Addr) (cap:Nat) (w:World) :
  Calls Tryz.prog 207 #[.slice A 0 cap,.func (.func f) #[] cb] w fun e w'=>e = .returned (.tuple #[])∧w' = w:=by
 have hin:∀ w:World,Calls Tryz.prog 257 #[.slice A 0 cap,.int .i64 0,.int .i64 0,.func (.func f) #[] cb] w fun e w'=>e = .returned (.tuple #[])∧w' = w:=fun w=>by
  go_enter Tryz.func257,Tryz.ntmps257
  go_wp2
  refine wp_loop_rounds 1 ?_
  rw [rounds_succ]
  go_wp2
  go_end0
  exact ⟨rfl,rfl⟩
 have hst:∀ w:World,Calls Tryz.prog 230 #[.slice A 0 cap,.int .i64 0,.func (.func f) #[] cb] w fun e w'=>e = .returned (.tuple #[])∧w' = w:=fun w=>by
  go_enter Tryz.func230,Tryz.ntmps230
  go_wp2
  refine wp_loop_rounds 1 ?_
  rw [rounds_succ]
  go_wp2_with fail
  refine (hin _).mono ?_
  rintro e w1 ⟨rfl,rfl⟩
  go_wp2
  refine wp_loop_rounds 1 ?_
  rw [rounds_succ]
  go_wp2
  go_end0
  exact ⟨rfl,rfl⟩
 go_enter Tryz.func207,Tryz.ntmps207
 go_wp2_with fail
 refine (hst _).mono ?_
 rintro e w1 ⟨rfl,rfl⟩
 go_wp2
 go_end0
 exact ⟨rfl,rfl⟩
end Go.Proofs.YtlhkojcmcmkmaaaGreat
namespace Go.Proofs.YtlhkojcmcmkmaaaGreat
open Go.RowKit Go.Sort Go.Shelf
structure HdC (g:Nat) (v:Value) (w:World) : Prop where
 c:w.cell? ⟨g,0,none⟩ = some v
 lt:g < w.heap.size
theorem HdC.stable (g:Nat) (v:Value) : Stable (HdC g v):=fun _ _ h hb=>⟨(hb.cell (p:=⟨g,0,none⟩) h.lt).trans h.c,Nat.lt_of_lt_of_le h.lt hb.size⟩
theorem HdC.adv {g:Nat} {v:Value} {w w' : World} (h:HdC g v w) (hb:Below w.heap.size w w') : HdC g v w':=HdC.stable g v _ _ h hb
theorem HdC.grown {g:Nat} {v:Value} {w w' : World} {row:Option Nat} (h:HdC g v w) (hg:w.grownBy w' row) (hr:some g ≠ row) : HdC g v w':=⟨(World.cell?_of_block (hg.block g h.lt hr)).trans h.c,Nat.lt_of_lt_of_le h.lt hg.size⟩
theorem HdC.set {g:Nat} {v:Value} {w:World} (h:HdC g v w) {g' : Nat} (hne:g ≠ g') (i:Nat) (u:Value) : HdC g v (w.setCell ⟨g',i,none⟩ u):=h.grown (only_setCell (p:=⟨g',i,none⟩) (only_refl w (some g')) (.inl rfl) u) (fun e=>hne (by injection e))
def iotaI (n:Nat) : List Int:=(List.range n).map fun (i:Nat)=>(i:Int)
theorem iotaI_len (n:Nat) : (iotaI n).length = n:=by simp [iotaI]
theorem iotaI_at {n k : Nat} (h:k < n) : (iotaI n).getD k 0 = k:=by simp [iotaI,List.getD_eq_getElem?_getD,List.getElem?_range h]
theorem valsF_fin (m:Nat) : valsF (List.finRange (m+1)) = iotaI (m+1):=by
 apply List.ext_getElem
 ·
  simp [valsF,iotaI]
 ·
  intro i h1 h2
  simp [valsF,iotaI]
theorem RowI.upto_next {w:World} {g n k : Nat} {l:List Int} (h:RowI w g (upto l n k)) (hl:l.length = n) (hk:k < n) {v:Int} (hv:v = l.getD k 0) : RowI (w.setCell ⟨g,k,none⟩ (.int .i64 v)) g (upto l n (k+1)):=by
 subst hv
 rw [← upto_set l n k hl hk]
 exact h.set (by rw [upto_len l n k hl (by omega)]; exact hk) _
theorem incAt_bd (l:List Nat) (P:List Int) (i:Nat) : P.getD i 0≤(incAt P l).getD i 0∧(incAt P l).getD i 0≤P.getD i 0+l.length:=by
 induction l generalizing P with
 | nil=>simp [incAt]
 | cons a l ih =>
  have h:=ih (P.set a (P.getD a 0+1))
  have e:(P.set a (P.getD a 0+1)).getD i 0 = P.getD i 0 ∨ (P.set a (P.getD a 0+1)).getD i 0 = P.getD i 0+1:=by
   rw [List.getD_eq_getElem?_getD,List.getElem?_set,List.getD_eq_getElem?_getD]
   by_cases e:a = i
   ·
    subst e
    by_cases h:a < P.length
    ·
     right; simp [h]
    ·
     left; simp [h]
   ·
    left; simp [e]
  unfold incAt at *
  rw [List.foldl_cons]
  simp only [List.length_cons,Int.natCast_add]
  omega
set_option maxRecDepth 100000 in
set_option maxHeartbeats 1000000 in
theorem divClo_any (gh gr n : Nat) (R:List Int) (i j : Nat) (w:World) (hi:i < R.length) (hj:j < R.length) (hn:R.length = n) (hh:HdC gh (.slice (some ⟨gr,0,none⟩) n n) w) (hR : ∀ k,k < R.length→w.cell? ⟨gr,k,none⟩ = some (.int .i64 (R.getD k 0))) :
  Calls Tryz.prog 254 #[.int .i64 (i:Int),.int .i64 (j:Int),.pointer (some ⟨gh,0,none⟩)] w fun e w'=>e = .returned (.int .i64 (cmpI (R.getD j 0) (R.getD i 0)))∧∃ q,w' = w.drewN q:=by
 have z0:=hh.c
 have ci:=hR i hi
 have cj:=hR j hj
 have hi':(i:Int) < (n:Int):=by omega
 have hj':(j:Int) < (n:Int):=by omega
 clear hR hh
 generalize R.getD i 0 = ri at *
 generalize R.getD j 0 = rj at *
 go_enter Tryz.func254,Tryz.ntmps254
 go_wp2
 go_quiet ((go_at_call 84; exact Calls.quiet_of_same ((compareI_any _ _ _).mono fun e w' ⟨h1,h2⟩=>⟨h1,h2.symm⟩)))
 go_wp2
 go_ret
 exact ⟨rfl,nq,rfl⟩
structure DivAt (total:Int) (ws:List Int) (w0:World) (gp gr go gh n k : Nat) (w:World) : Prop where
 p:RowI w gp (upto (alcP total ws) n k)
 r:RowI w gr (upto (alcR total ws) n k)
 o:RowI w go (upto (iotaI n) n k)
 h:HdC gh (.slice (some ⟨gr,0,none⟩) n n) w
 b:Below w0.heap.size w0 w
def cfR {m:Nat} (R:List Int) (a b : Fin (m+1)) : Int:=cmpI (R.getD b.val 0) (R.getD a.val 0)
theorem ltOf_cfR {m:Nat} (R:List Int) (a b : Fin (m+1)) : ltOf (cfR R) a b = decide (R.getD b.val 0 < R.getD a.val 0):=by
 unfold ltOf cfR cmpI
 generalize R.getD a.val 0 = x
 generalize R.getD b.val 0 = y
 by_cases h:y < x
 ·
  simp [h]
 ·
  rw [if_neg h]
  split <;> simp <;> omega
theorem swo_cfR {m:Nat} (R:List Int) : SWO (ltOf (cfR (m:=m) R)) where
 irrefl x:=by rw [ltOf_cfR]; simp
 trans x y z h1 h2:=by rw [ltOf_cfR,decide_eq_true_eq] at *; omega
 ntrans x y z h1 h2:=by rw [ltOf_cfR,decide_eq_false_iff_not] at *; omega
theorem rest_of {m:Nat} (R:List Int) {ys:List (Fin (m+1))} (h:ys.Pairwise (fun a b=>ltS (ltOf (cfR R)) (·.val) a b = true)) : (ys.map (·.val)).Pairwise (RestLt R):=by
 rw [List.pairwise_map]
 refine h.imp fun {a b} hab=>?_
 unfold ltS at hab
 rw [ltOf_cfR,ltOf_cfR] at hab
 simp only [Bool.or_eq_true,Bool.and_eq_true,Bool.not_eq_true',decide_eq_true_eq,decide_eq_false_iff_not] at hab
 unfold RestLt
 omega
theorem range_fin (n:Nat) : (List.finRange n).map (fun i=>i.val) = List.range n:=by
 apply List.ext_getElem
 ·
  simp
 ·
  intro i h1 h2; simp
set_option maxRecDepth 100000 in
set_option maxHeartbeats 8000000 in
theorem divideP (total:Int) (A:Option Addr) (cap:Nat) (ws:List Int) (S:Int) (w:World) (h:SliceOf encI 1 w w.heap.size A ws) (h0:0≤total) (h1:total≤1000000000) (hw : ∀ x ∈ ws,0≤x∧x≤1000000000) (hs:0 < sumI ws) (hS:S = sumI ws) (hSm:sumI ws≤20000000000) (hl:ws.length < 20) :
  Calls Tryz.prog 227 #[.int .i64 total,.slice A ws.length cap,.int .i64 S] w fun e w'=>∃ g,e = .returned (.slice (some ⟨g,0,none⟩) ws.length ws.length)∧w.heap.size≤g∧RowI w' g (allocN total ws)∧Below w.heap.size w w':=by
 have hm0:=alcM_lt (total:=total) hs
 have HSZ:Hid (∀ k (hk:k < ws.length),(0≤total * ws[k]∧total * ws[k]≤1000000000000000000)∧(total * ws[k]).tdiv (sumI ws) = total * ws[k] / sumI ws∧(total * ws[k]).tmod (sumI ws) = total * ws[k] % sumI ws∧(0≤total * ws[k] / sumI ws∧total * ws[k] / sumI ws≤1000000000)):=fun k hk=>alc_sizes h0 h1 hw hs hk
 have hPn:∀ x ∈ alcP total ws,0≤x:=alcP_nonneg h0 (fun x hx=>(hw x hx).1) hs
 have hPs:=alcP_sum_le (total:=total) hs
 have HPS:Hid (∀ k,0≤sumI ((alcP total ws).take k)∧sumI ((alcP total ws).take k)≤total):=fun k=>by
  have:=sum_take_le hPn k; omega
 have HPB:Hid (∀ i,0≤(alcP total ws).getD i 0∧(alcP total ws).getD i 0≤1000000000):=fun i=>by
  have:=getD_nonneg hPn i
  have h2:=getD_le_sum hPn i
  omega
 have HLP:Hid ((alcP total ws).length = ws.length):=by simp [Hid,alcP]
 have HLR:Hid ((alcR total ws).length = ws.length):=by simp [Hid,alcR]
 have HAL:Hid (∀ ys:List Nat,ys.Perm (List.range ws.length)→ys.Pairwise (RestLt (alcR total ws))→allocN total ws = incAt (alcP total ws) (ys.take (alcM total ws).toNat)):=fun ys h1 h2=>alloc_sorted hs ys h1 h2
 have hpos:=sumI_pos_len hs
 have hmk:=make_ints ws.length (by omega)
 have hs0:(S == 0) = false:=by rw [beq_eq_false_iff_ne]; omega
 have hS1:0 < S:=by omega
 have HS:=Lib.hid hS
 have HM0:Hid (0≤alcM total ws∧alcM total ws≤ws.length):=hm0
 have HMD:Hid (alcM total ws = total - sumI (alcP total ws)):=rfl
 clear hPn hPs hw hs hSm hm0
 obtain ⟨n,hn⟩ : ∃ n,ws.length = n:=⟨_,rfl⟩
 have HN:=Lib.hid hn
 rw [hn] at hmk hpos hl ⊢
 clear hn hS
 go_enter Tryz.func227,Tryz.ntmps227
 go_upto_region 4 with fail
 have hR1:=RowI.made w n
 have hb1:=below_new w (.cells (madeCells #[.int .i64 0] n) 3)
 have e1:(w.alloc (.cells (madeCells #[.int .i64 0] n) 3)).heap.size = w.heap.size+1:=by simp
 generalize w.alloc (.cells (madeCells #[.int .i64 0] n) 3) = w1 at hR1 hb1 e1 ⊢
 have hR2:=RowI.made w1 n
 have hb2:=below_new w1 (.cells (madeCells #[.int .i64 0] n) 3)
 have e2:(w1.alloc (.cells (madeCells #[.int .i64 0] n) 3)).heap.size = w.heap.size+1+1:=by simp; omega
 rw [e1] at hR2
 generalize w1.alloc (.cells (madeCells #[.int .i64 0] n) 3) = w2 at hR2 hb2 e2 ⊢
 have hH:=Blk.new w2 34 #[.slice (some ⟨w.heap.size+1,0,none⟩) n n]
 have hb3:=below_new w2 (.cells #[.slice (some ⟨w.heap.size+1,0,none⟩) n n] 34)
 have e3:(w2.alloc (.cells #[.slice (some ⟨w.heap.size+1,0,none⟩) n n] 34)).heap.size = w.heap.size+1+1+1:=by simp; omega
 rw [e2] at hH
 generalize w2.alloc (.cells #[.slice (some ⟨w.heap.size+1,0,none⟩) n n] 34) = w3 at hH hb3 e3 ⊢
 have hR4:=RowI.made w3 n
 have hb4:=below_new w3 (.cells (madeCells #[.int .i64 0] n) 3)
 rw [e3] at hR4
 generalize w3.alloc (.cells (madeCells #[.int .i64 0] n) 3) = w4 at hR4 hb4 ⊢
 have hb34:=bel_adv hb3 hb4
 have hD:DivAt total ws w w.heap.size (w.heap.size+1) (w.heap.size+1+1+1) (w.heap.size+1+1) n 0 w4:=by
  refine ⟨?_,?_,?_,⟨?_,(hH.adv hb4).lt⟩,bel_adv hb1 (bel_adv hb2 hb34)⟩
  ·
   rw [upto_zero]; exact (hR1.adv hb2).adv hb34
  ·
   rw [upto_zero]; exact hR2.adv hb34
  ·
   rw [upto_zero]; exact hR4
  ·
   exact (hH.adv hb4).cell 0
 clear hR1 hb1 hR2 hb2 hH hb3 hR4 hb4 hb34 e1 e2 e3 hmk
 obtain ⟨gr,hgr⟩ : ∃ g,g = w.heap.size+1:=⟨_,rfl⟩
 obtain ⟨gh,hgh⟩ : ∃ g,g = gr+1:=⟨_,rfl⟩
 obtain ⟨go,hgo⟩ : ∃ g,g = gh+1:=⟨_,rfl⟩
 rw [← hgr,← hgh,← hgo] at hD
 rw [← hgr,← hgh,← hgo]
 have n1:w.heap.size ≠ gr:=by omega
 have n2:w.heap.size ≠ gh:=by omega
 have n3:w.heap.size ≠ go:=by omega
 have n4:gr ≠ gh:=by omega
 have n5:gr ≠ go:=by omega
 have n6:gh ≠ go:=by omega
 have n7:w.heap.size≤gr:=by omega
 have n8:w.heap.size≤go:=by omega
 clear hgr hgh hgo
 go_wp2
 go_loopw [10,27] (fun ms i wr=>∃ k:Nat,k≤n∧i = .int .i64 k∧ms = .int .i64 (total - sumI ((alcP total ws).take k))∧DivAt total ws w w.heap.size gr go gh n k wr) (fun _ i _=>n - (intOf i).toNat)
 case atStart=>exact ⟨0,by omega,rfl,by simp [sumI],hD⟩
 case round =>
  clear hD
  obtain ⟨k,hk,rfl,rfl,hD⟩:=hrel
  obtain ⟨s0,s1⟩:=HPS.out k
  by_cases hlt:k < n
  ·
   have hkw:k < ws.length:=by rw [HN.out]; exact hlt
   obtain ⟨b1,off1,rfl,hb1,hc1⟩:=(h.adv hD.b).at_ hkw
   have c0:=hc1 0 _ rfl
   simp only [Nat.add_zero,Nat.mul_one] at c0
   obtain ⟨⟨p0,p1⟩,e1,e2,q0,q1⟩:=HSZ.out k hkw
   have HP:=Lib.hid (alcP_at (total:=total) hkw)
   have HR:=Lib.hid (alcR_at (total:=total) hkw)
   have HST:=Lib.hid (sumI_takeD (alcP total ws) k (by rw [HLP.out]; exact hkw))
   obtain ⟨s2,s3⟩:=HPS.out (k+1)
   rw [HST.out,HP.out] at s2 s3
   rw [HP.out] at HST
   rw [← HS.out] at e1 e2 q0 q1 HP HR s2 s3 HST
   have hki:(k:Int) < (n:Int):=by omega
   have HD:=Lib.hid hD
   clear hc1 h hD
   go_upto_region 8 with fail
   refine M3.wp_region_sel (C:=HdC gh (.slice (some ⟨gr,0,none⟩) n n)) (HdC.stable _ _) HD.out.h (aE:=?aE) [0,1,2,3,4,5,6,7,8,9,10,11,12,13] 4 (by kernel_rfl) (by kernel_rfl) rfl (by kernel_rfl) (by kernel_rfl) (by rfl) ?H ?M
   case H =>
    intro F hF inst
    simp only [M3.opsAt,List.getElem?_toArray,List.getElem?_cons_zero,List.getElem?_cons_succ]
    have q9:∀ p:BwC (HdC gh (.slice (some ⟨gr,0,none⟩) n n)) F,p.w'.cell? ⟨gh,0,none⟩ = some (.slice (some ⟨gr,0,none⟩) n n):=fun p=>p.h.c
    repeat (go_big_quiet_step (fail))
    refine wpQuiet_nil ?_
    rfl
   case M =>
    intro Q0 hQ0
    have pwr:=HD.out.p
    have rwr:=HD.out.r
    have owr:=HD.out.o
    have bwr:=HD.out.b
    clear HD
    refine M3.mix_step [14] (by kernel_rfl) (by simp) ?_
    intro wa hCwa hbwa i hi
    rw [List.mem_singleton] at hi
    subst hi
    have pwa:=pwr.adv hbwa
    have rwa:=rwr.adv hbwa
    have owa:=owr.adv hbwa
    have bwa:=bel_adv bwr hbwa
    clear hbwa pwr rwr owr bwr
    refine M3.mix_val (.pointer (some ⟨w.heap.size,k,none⟩)) wa rfl rfl (by go_simp) ⟨hCwa,?_⟩
    simp only [Act.put,List.setIfInBounds_toArray]
    refine M3.mix_step [15] (by kernel_rfl) (by simp) ?_
    intro wb hCwb hbwb i hi
    rw [List.mem_singleton] at hi
    subst hi
    have pwb:=pwa.adv hbwb
    have rwb:=rwa.adv hbwb
    have owb:=owa.adv hbwb
    have bwb:=bel_adv bwa hbwb
    clear hbwb pwa rwa owa bwa
    have z:=pwb.cell (i:=k) (by rw [upto_len _ _ _ (HLP.out.trans HN.out) (by omega)]; exact hlt)
    have fz:=pwb.frozen k
    have hlz:=pwb.lt
    refine M3.mix_skip (wb.setCell ⟨w.heap.size,k,none⟩ (.int .i64 (total * ws[k] / S))) rfl rfl (by go_simp) ⟨hCwb.set (fun e=>n2 e.symm) _ _,?_⟩
    simp only [Act.put]
    have pwc:=pwb.upto_next (HLP.out.trans HN.out) hlt (v:=total * ws[k] / S) HP.out.symm
    have rwc:=rwb.far (p:=⟨w.heap.size,k,none⟩) (fun e=>n1 e.symm) (.int .i64 (total * ws[k] / S))
    have owc:=owb.far (p:=⟨w.heap.size,k,none⟩) (fun e=>n3 e.symm) (.int .i64 (total * ws[k] / S))
    have bwc:=bel_set bwb (Nat.le_refl w.heap.size) k (.int .i64 (total * ws[k] / S))
    generalize wb.setCell ⟨w.heap.size,k,none⟩ (.int .i64 (total * ws[k] / S)) = wc at pwc rwc owc bwc ⊢
    clear hCwa hCwb pwb rwb owb bwb z fz hlz
    refine M3.mix_step [16] (by kernel_rfl) (by simp) ?_
    intro wd hCwd hbwd i hi
    rw [List.mem_singleton] at hi
    subst hi
    have pwd:=pwc.adv hbwd
    have rwd:=rwc.adv hbwd
    have owd:=owc.adv hbwd
    have bwd:=bel_adv bwc hbwd
    clear hbwd pwc rwc owc bwc
    refine M3.mix_val (.pointer (some ⟨gr,k,none⟩)) wd rfl rfl (by go_simp) ⟨hCwd,?_⟩
    simp only [Act.put]
    refine M3.mix_step [17] (by kernel_rfl) (by simp) ?_
    intro we hCwe hbwe i hi
    rw [List.mem_singleton] at hi
    subst hi
    have pwe:=pwd.adv hbwe
    have rwe:=rwd.adv hbwe
    have owe:=owd.adv hbwe
    have bwe:=bel_adv bwd hbwe
    clear hbwe pwd rwd owd bwd
    have z:=rwe.cell (i:=k) (by rw [upto_len _ _ _ (HLR.out.trans HN.out) (by omega)]; exact hlt)
    have fz:=rwe.frozen k
    have hlz:=rwe.lt
    have hCwf:=hCwe.set (g':=gr) (fun e=>n4 e.symm) k (.int .i64 (total * ws[k] % S))
    refine M3.mix_skip (we.setCell ⟨gr,k,none⟩ (.int .i64 (total * ws[k] % S))) rfl rfl (by go_simp) ⟨hCwf,?_⟩
    simp only [Act.put]
    have pwf:=pwe.far (p:=⟨gr,k,none⟩) n1 (.int .i64 (total * ws[k] % S))
    have rwf:=rwe.upto_next (HLR.out.trans HN.out) hlt (v:=total * ws[k] % S) HR.out.symm
    have owf:=owe.far (p:=⟨gr,k,none⟩) (fun e=>n5 e.symm) (.int .i64 (total * ws[k] % S))
    have bwf:=bel_set bwe n7 k (.int .i64 (total * ws[k] % S))
    generalize we.setCell ⟨gr,k,none⟩ (.int .i64 (total * ws[k] % S)) = wf at pwf rwf owf bwf hCwf ⊢
    clear hCwd hCwe pwe rwe owe bwe z fz hlz
    refine M3.mix_end (by kernel_rfl) ?_
    intro wg hCg hbg
    refine hQ0 _ _ ?_
    have pwg:=pwf.adv hbg
    have rwg:=rwf.adv hbg
    have owg:=owf.adv hbg
    have bwg:=bel_adv bwf hbg
    clear hbg pwf rwf owf bwf hCwf hQ0
    have zo:=owg.cell (i:=k) (by rw [upto_len _ _ _ (iotaI_len n) (by omega)]; exact hlt)
    have fo:=owg.frozen k
    have lo:=owg.lt
    have zp:=pwg.cell (i:=k) (by rw [upto_len _ _ _ (HLP.out.trans HN.out) (by omega)]; exact hlt)
    rw [upto_at _ _ _ hlt (HLP.out.trans HN.out),HP.out] at zp
    generalize (upto (iotaI n) n k).getD k 0 = oz at zo
    have HPG:=Lib.hid pwg
    have HRG:=Lib.hid rwg
    have HOG:=Lib.hid owg
    have HBG:=Lib.hid bwg
    have HCG:=Lib.hid hCg
    have hal:total - sumI ((alcP total ws).take (k+1)) = total - sumI ((alcP total ws).take k) - total * ws[k] / S:=by rw [HST.out]; omega
    have HAL2:=Lib.hid hal
    clear hal pwg rwg owg bwg hCg
    generalize sumI ((alcP total ws).take k) = sk at *
    go_wp2
    go_roundw
    case rel =>
     refine ⟨k+1,by omega,by go_num,by rw [HAL2.out],⟨HPG.out.far (p:=⟨go,k,none⟩) n3 _,HRG.out.far (p:=⟨go,k,none⟩) n5 _,HOG.out.upto_next (iotaI_len n) hlt (iotaI_at hlt).symm,HCG.out.set n6 _ _,bel_set HBG.out n8 _ _⟩⟩
    case measure=>simp [intOf]; omega
  ·
   obtain rfl:k = n:=by omega
   obtain ⟨m,hm⟩ : ∃ m,k = m+1:=⟨k - 1,by omega⟩
   have hPk:=hD.p
   rw [upto_all _ _ (HLP.out.trans HN.out)] at hPk
   have hRk:=hD.r
   rw [upto_all _ _ (HLR.out.trans HN.out)] at hRk
   have hOk:=hD.o
   rw [upto_all _ _ (iotaI_len k)] at hOk
   have hHk:=hD.h
   have hBk:=hD.b
   have hgp:=hPk.lt
   have hLR:=HLR.out.trans HN.out
   have hlen:(List.finRange (m+1)).length = k:=by simp [hm]
   have hst:=stable_any (cfR (m:=m) (alcR total ws)) 254 #[.pointer (some ⟨gh,0,none⟩)] go k (List.finRange (m+1)) wr
    (by rw [List.pairwise_iff_getElem]; intro a b ha hb hab; simpa using hab) (swo_cfR _) (enters_of Tryz.func254 (by kernel_rfl) rfl)
    (CmpReads.lays (fun mm os dk hsz x y=>by
     have hg:=only_sortWorld encF wr go 0 mm dk os
     have hR2:=hRk.grown hg (fun e=>n5 (by injection e))
     exact divClo_any gh gr k (alcR total ws) x.val y.val _ (by rw [hLR,hm]; exact x.isLt) (by rw [hLR,hm]; exact y.isLt) hLR (hHk.grown hg (fun e=>n6 (by injection e))) (fun q hq=>hR2.cell hq)))
    (by rw [valsF_fin,← hm]; exact hOk) (by rw [hlen]; omega)
   rw [hlen] at hst
   have HST:=Lib.hid hst
   have hmi:∃ mi:Nat,total - sumI ((alcP total ws).take k) = (mi:Int)∧(alcM total ws).toNat = mi∧mi≤k:=by
    have h1:=HM0.out
    have h2:=HMD.out
    rw [HN.out] at h1
    refine ⟨(alcM total ws).toNat,?_,rfl,by omega⟩
    rw [List.take_of_length_le (by rw [HLP.out,HN.out]; exact Nat.le_refl _)]
    omega
   obtain ⟨mi,hmi,hmt,hmk⟩:=hmi
   have HAL2:Hid (∀ ys:List (Fin (m+1)),ys.Perm (List.finRange (m+1))→ys.Pairwise (fun a b=>ltS (ltOf (cfR (alcR total ws))) (·.val) a b = true)→allocN total ws = incAt (alcP total ws) ((ys.map (·.val)).take mi)):=fun ys h1 h2=>by
    rw [HAL.out (ys.map (·.val)) (by rw [HN.out,hm,← range_fin]; exact h1.map _) (rest_of _ h2),hmt]
   rw [hmi]
   have HMK:=Lib.hid hm
   have hslc:=slice_to go 0 k k (mi:Int) mi rfl hmk (by omega)
   have HHK:=Lib.hid hHk
   clear hst hD hRk hOk hHk hLR hlen hmi hmt hm HAL HM0 HMD h HSZ HPS s0 s1
   go_wp2_with fail
   refine Calls.mono HST.out ?_
   rintro e w5 ⟨rfl,ys,hp,hpw,hro,hg5⟩
   have HY:=Lib.hid (HAL2.out ys hp hpw)
   have hyl:ys.length = k:=by rw [hp.length_eq,HMK.out]; simp
   have hP5:=hPk.grown hg5 (fun e=>n3 (by injection e))
   have hB5:=bel_only hBk hg5 (fun q e=>by injection e; omega)
   have HYL:=Lib.hid hyl
   clear HST HAL2 hp hpw hPk hBk hg5 hyl
   go_wp2
   go_loopw [66] (fun i wr=>∃ q:Nat,q≤mi∧i = .int .i64 q∧RowI wr w.heap.size (incAt (alcP total ws) ((ys.map (·.val)).take q))∧w5.grownBy wr (some w.heap.size)) (fun i _=>mi - (intOf i).toNat)
   case atStart=>exact ⟨0,by omega,rfl,by simpa [incAt] using hP5,only_refl _ _⟩
   case round =>
    rename World=>wr2
    obtain ⟨q,hq,rfl,hPq,hgq⟩:=hrel
    by_cases hltq:q < mi
    ·
     have hqy:q < ys.length:=by rw [HYL.out]; omega
     have hOq:=hro.grown hgq (fun e=>n3 (by injection e; omega))
     have zo:=hOq.cell (i:=q) (by simpa [valsF] using hqy)
     have hval:(valsF ys).getD q 0 = ((ys[q].val:Nat) : Int):=by simp [valsF,List.getD_eq_getElem?_getD,List.getElem?_map,List.getElem?_eq_getElem hqy]
     rw [hval] at zo
     have hvk:ys[q].val < k:=by rw [HMK.out]; exact ys[q].isLt
     have htk:(ys.map (·.val)).take (q+1) = (ys.map (·.val)).take q++[ys[q].val]:=by
      rw [List.take_succ_eq_append_getElem (by simpa using hqy)]; simp
     obtain ⟨x0,x1⟩:=incAt_bd ((ys.map (·.val)).take q) (alcP total ws) ys[q].val
     obtain ⟨y0,y1⟩:=HPB.out ys[q].val
     have hil:(incAt (alcP total ws) ((ys.map (·.val)).take q)).length = k:=by rw [incAt_len,HLP.out,HN.out]
     have zp:=hPq.cell (i:=ys[q].val) (by rw [hil]; exact hvk)
     have fp:=hPq.frozen ys[q].val
     have lp:=hPq.lt
     have hlt2:((ys.map (·.val)).take q).length≤q:=by simp; omega
     have HSET:=Lib.hid (hPq.set (i:=ys[q].val) (by rw [hil]; exact hvk) ((incAt (alcP total ws) ((ys.map (·.val)).take q)).getD ys[q].val 0+1))
     have HTK:Hid (incAt (alcP total ws) ((ys.map (·.val)).take (q+1)) = (incAt (alcP total ws) ((ys.map (·.val)).take q)).set ys[q].val ((incAt (alcP total ws) ((ys.map (·.val)).take q)).getD ys[q].val 0+1)):=by rw [Hid,htk,incAt_snoc]
     have z0:0≤(incAt (alcP total ws) ((ys.map (·.val)).take q)).getD ys[q].val 0:=by omega
     have z1:(incAt (alcP total ws) ((ys.map (·.val)).take q)).getD ys[q].val 0≤2000000000:=by omega
     have hvi:((ys[q].val:Nat) : Int) < (k:Int):=by omega
     have hqi:(q:Int) < (mi:Int):=by omega
     have HGQ:=Lib.hid hgq
     clear hval htk x0 x1 y0 y1 hil hlt2 hPq hOq hro hgq
     generalize (incAt (alcP total ws) ((ys.map (·.val)).take q)).getD ys[q].val 0 = x at *
     generalize ys[q].val = v at *
     go_wp2
     go_roundw
     case rel=>exact ⟨q+1,by omega,by go_num,by rw [HTK.out]; exact HSET.out,only_setCell HGQ.out (.inl rfl) _⟩
     case measure=>simp [intOf]; omega
    ·
     obtain rfl:q = mi:=by omega
     rw [← HY.out] at hPq
     have HPQ:=Lib.hid hPq
     have hfin:=bel_only hB5 hgq (fun q e=>by injection e; omega)
     have HFIN:=Lib.hid hfin
     clear hPq hfin hgq hro
     go_wp2
     go_ret
     exact ⟨w.heap.size,rfl,Nat.le_refl _,HPQ.out,HFIN.out⟩
set_option maxRecDepth 100000 in
set_option maxHeartbeats 2000000 in
theorem allocateP (total:Int) (A:Option Addr) (cap:Nat) (ws:List Int) (w:World) (h:SliceOf encI 1 w w.heap.size A ws) (h0:0≤total) (h1:total≤1000000000) (hw : ∀ x ∈ ws,0≤x∧x≤1000000000) (hs:0 < sumI ws) (hl:ws.length < 20) :
  Calls Tryz.prog 204 #[.int .i64 total,.slice A ws.length cap] w fun e w'=>∃ g,e = .returned (.tuple #[.slice (some ⟨g,0,none⟩) ws.length ws.length,.int .i64 0])∧w.heap.size≤g∧RowI w' g (allocN total ws)∧Below w.heap.size w w':=by
 have hb:=(sumI_bd (l:=ws) (B:=1000000000) hw).2
 have HD:=Lib.hid (divideP total A cap ws (sumI ws) w h h0 h1 hw hs rfl (by omega) hl)
 have HW:=Lib.hid hw
 have HSS:=Lib.hid hs
 clear hw hs hb
 go_enter Tryz.func204,Tryz.ntmps204
 go_wp2
 go_loop [6,22] (fun s' i=>∃ k:Nat,k≤ws.length∧i = .int .i64 k∧s' = .int .i64 (sumI (ws.take k))) (fun _ i=>ws.length - (intOf i).toNat)
 case atStart=>exact ⟨0,by omega,rfl,rfl⟩
 case round =>
  obtain ⟨k,hk,rfl,rfl⟩:=hrel
  have hb3:=sumI_bd (l:=ws.take k) (B:=1000000000) (fun x hx=>HW.out x (List.mem_of_mem_take hx))
  simp only [List.length_take] at hb3
  obtain ⟨b0,b1⟩:=hb3
  have b2:sumI (ws.take k)≤20000000000:=by omega
  clear b1
  by_cases hlt:k < ws.length
  ·
   obtain ⟨b,off,rfl,hb,hc⟩:=h.at_ hlt
   have c0:=hc 0 _ rfl
   simp only [Nat.add_zero,Nat.mul_one] at c0
   have HT:=Lib.hid (sumI_take ws k hlt)
   obtain ⟨x0,x1⟩:=HW.out _ (List.getElem_mem hlt)
   clear hc
   go_wp2
   go_round
   case rel=>exact ⟨k+1,by omega,by go_num,by rw [HT.out]⟩
   case measure=>simp [intOf]; omega
  ·
   obtain rfl:k = ws.length:=by omega
   rw [List.take_of_length_le (by omega)] at b0 b2 ⊢
   have hz:(sumI ws == 0) = false:=by rw [beq_eq_false_iff_ne]; have:=HSS.out; omega
   go_wp2_with fail
   refine Calls.mono HD.out ?_
   rintro e w1 ⟨g,rfl,hg,hR,hb1⟩
   have HR:=Lib.hid hR
   clear hR HD
   go_wp2
   go_ret2
   exact ⟨g,rfl,hg,HR.out,hb1⟩
end Go.Proofs.YtlhkojcmcmkmaaaGreat
