/- Joined texts: Box. Conditions: as stated. -/
import Derived.Test.YtopekilofdadnaaGreatDoorJMix2
import Derived.Test.YtopekilofdadnaaGreatDoorJBlkOps
namespace Go.Proofs.YtopekilofdadnaaGreatDoor
open Go.RowKit
theorem BwC.cellB {F:World→Prop} {W:World} {a:Addr} {v:Value} (hlt:a.block < W.heap.size) (h:W.cell? a = some v) (p:BwC (fun w'=>Below W.heap.size W w') F) : p.w'.cell? a = some v:=(p.h.cell hlt).trans h
theorem wp_region_box {P:Program} {id:Nat} {Q:Exit→Act→World→Prop} {a aE : Act} {W:World} {L:List Oper} (is:List Nat) (ia ix : Nat) {d:Nat} {t ty : TypeId} {zs:Array Value} (vs:Array Value) {x:Operand} {oa ox : Oper}
  (hm:P.follows .mixedOrders = true) (hs:Region.noSelect L.toArray = true) (hn:2+is.length = L.length)
  (hi:is.all (fun i=>decide (i < L.toArray.size)) = true) (hB:M3.lexSel .any L.toArray is (Array.replicate L.length false) = true) (hd:M3.dstsOk a.tmps.size (M3.opsAt L.toArray is) = true)
  (r1:Region.ready .any L.toArray (M3.listSel is (Array.replicate L.length false)) = [ia]) (r2:Region.ready .any L.toArray ((M3.listSel is (Array.replicate L.length false)).setIfInBounds ia true) = [ix])
  (r3:Region.ready .any L.toArray (((M3.listSel is (Array.replicate L.length false)).setIfInBounds ia true).setIfInBounds ix true) = [])
  (hoa:L.toArray[ia]? = some oa) (hox:L.toArray[ix]? = some ox) (hda:oa.dst = some d) (hga:oa.guard = none) (hdx:ox.dst = none) (hgx:ox.guard = none) (hxo:ox.op = .store ty (.tmp d) x)
  (hra:∀ (b:Act) (w:World),(execOp b.eval oa).run P w = .ok (.value (.pointer (some ⟨w.heap.size,0,none⟩))) (w.alloc (.cells zs t)))
  (hsz:vs.size = zs.size) (hi2:(P.info? ty).map (·.size) = some vs.size) (h1:vs.toList.all (·.oneCell') = true)
  (H:∀ F:World→Prop,Stable F→Inhabited (BwC (fun w'=>Below W.heap.size W w') F)→wpQuiet P L.toArray (fun w'=>∃ p:BwC (fun w'=>Below W.heap.size W w') F,w' = p.w') (fun a'=>a' = aE) (M3.opsAt L.toArray is) a)
  (E:∀ g,(aE.put (some d) (.pointer (some ⟨g,0,none⟩))).eval x = .agg vs∧(aE.put (some d) (.pointer (some ⟨g,0,none⟩))).eval (.tmp d) = .pointer (some ⟨g,0,none⟩))
  (M:∀ g w',W.heap.size≤g→Blk w' g t vs→Below W.heap.size W w'→Q .normal ((aE.put (some d) (.pointer (some ⟨g,0,none⟩))).put none undef) w') : (Code.region id L.toArray true).wp P Q a W:=by
 have hxe:=fun g=>(E g).1
 have hde:=fun g=>(E g).2
 refine M3.wp_region_sel (C:=fun w'=>Below W.heap.size W w') (stable_below _ _ (Nat.le_refl _)) (Below.refl _ _) is 2 hm hs hn hi hB hd H ?_
 intro Q0 hQ0
 refine M3.mix_step [ia] r1 (by simp) ?_
 intro w1 hC1 _ i hi'
 rw [List.mem_singleton] at hi'
 subst hi'
 refine M3.mix_val (.pointer (some ⟨w1.heap.size,0,none⟩)) (w1.alloc (.cells zs t)) hoa (by simp [Region.wanted,hga]) (hra _ _) ⟨bel_alloc hC1 _,?_⟩
 rw [hda]
 refine M3.mix_step [ix] r2 (by simp) ?_
 intro w2 hC2 hb2 i hi'
 rw [List.mem_singleton] at hi'
 subst hi'
 have hB2:=(Blk.new w1 t zs).adv hb2
 have hge:=hC1.size
 have hrun:(execOp (aE.put (some d) (.pointer (some ⟨w1.heap.size,0,none⟩))).eval ox).run P w2 = .ok .skip (w2.setCells w1.heap.size 0 vs.toList):=by
  unfold execOp
  simp only [hxo,hde,hxe,Instr.storeAt,Instr.sureAddr,Sem.run_bind,Sem.run_pure,Result.andThen_ok,run_storeVar_mid w2 w1.heap.size 0 ty vs (by have:=hB2.there; rwa [← hsz] at this) hi2 (by simpa using h1)]
 have hgr:=setCells_grown w1.heap.size vs.toList 0 w2
 have hC3:Below W.heap.size W (w2.setCells w1.heap.size 0 vs.toList):=bel_only hC2 hgr (fun q hq=>by injection hq; omega)
 refine M3.mix_skip (w2.setCells w1.heap.size 0 vs.toList) hox (by simp [Region.wanted,hgx]) hrun ⟨hC3,?_⟩
 rw [hdx]
 refine M3.mix_end r3 ?_
 intro w3 hC4 hb3
 exact hQ0 _ _ (M _ w3 hge ((hB2.setAll hsz).adv hb3) hC4)
theorem wp_region_box1 {P:Program} {id:Nat} {Q:Exit→Act→World→Prop} {a aE : Act} {W:World} {L:List Oper} (is:List Nat) (ia ix iz : Nat) {d dz : Nat} {t ty : TypeId} {zs:Array Value} (vs:Array Value) (v:Value) {x y : Operand} {oa ox oz : Oper}
  (hm:P.follows .mixedOrders = true) (hs:Region.noSelect L.toArray = true) (hn:3+is.length = L.length)
  (hi:is.all (fun i=>decide (i < L.toArray.size)) = true) (hB:M3.lexSel .any L.toArray is (Array.replicate L.length false) = true) (hd:M3.dstsOk a.tmps.size (M3.opsAt L.toArray is) = true)
  (r1:Region.ready .any L.toArray (M3.listSel is (Array.replicate L.length false)) = [ia]) (r2:Region.ready .any L.toArray ((M3.listSel is (Array.replicate L.length false)).setIfInBounds ia true) = [ix])
  (r3:Region.ready .any L.toArray (((M3.listSel is (Array.replicate L.length false)).setIfInBounds ia true).setIfInBounds ix true) = [iz])
  (r4:Region.ready .any L.toArray ((((M3.listSel is (Array.replicate L.length false)).setIfInBounds ia true).setIfInBounds ix true).setIfInBounds iz true) = [])
  (hoa:L.toArray[ia]? = some oa) (hox:L.toArray[ix]? = some ox) (hoz:L.toArray[iz]? = some oz) (hda:oa.dst = some d) (hga:oa.guard = none) (hdx:ox.dst = none) (hgx:ox.guard = none) (hxo:ox.op = .store ty (.tmp d) x)
  (hdz:oz.dst = some dz) (hgz:oz.guard = none) (hzo:oz.op = .assign y)
  (hra:∀ (b:Act) (w:World),(execOp b.eval oa).run P w = .ok (.value (.pointer (some ⟨w.heap.size,0,none⟩))) (w.alloc (.cells zs t)))
  (hsz:vs.size = zs.size) (hi2:(P.info? ty).map (·.size) = some vs.size) (h1:vs.toList.all (·.oneCell') = true)
  (H:∀ F:World→Prop,Stable F→Inhabited (BwC (fun w'=>Below W.heap.size W w') F)→wpQuiet P L.toArray (fun w'=>∃ p:BwC (fun w'=>Below W.heap.size W w') F,w' = p.w') (fun a'=>a' = aE) (M3.opsAt L.toArray is) a)
  (E:∀ g,(aE.put (some d) (.pointer (some ⟨g,0,none⟩))).eval x = .agg vs∧(aE.put (some d) (.pointer (some ⟨g,0,none⟩))).eval (.tmp d) = .pointer (some ⟨g,0,none⟩)∧((aE.put (some d) (.pointer (some ⟨g,0,none⟩))).put none undef).eval y = v)
  (M:∀ g w',W.heap.size≤g→Blk w' g t vs→Below W.heap.size W w'→Q .normal (((aE.put (some d) (.pointer (some ⟨g,0,none⟩))).put none undef).put (some dz) v) w') : (Code.region id L.toArray true).wp P Q a W:=by
 have hxe:=fun g=>(E g).1
 have hde:=fun g=>(E g).2.1
 have hze:=fun g=>(E g).2.2
 refine M3.wp_region_sel (C:=fun w'=>Below W.heap.size W w') (stable_below _ _ (Nat.le_refl _)) (Below.refl _ _) is 3 hm hs hn hi hB hd H ?_
 intro Q0 hQ0
 refine M3.mix_step [ia] r1 (by simp) ?_
 intro w1 hC1 _ i hi'
 rw [List.mem_singleton] at hi'
 subst hi'
 refine M3.mix_val (.pointer (some ⟨w1.heap.size,0,none⟩)) (w1.alloc (.cells zs t)) hoa (by simp [Region.wanted,hga]) (hra _ _) ⟨bel_alloc hC1 _,?_⟩
 rw [hda]
 refine M3.mix_step [ix] r2 (by simp) ?_
 intro w2 hC2 hb2 i hi'
 rw [List.mem_singleton] at hi'
 subst hi'
 have hB2:=(Blk.new w1 t zs).adv hb2
 have hge:=hC1.size
 have hrun:(execOp (aE.put (some d) (.pointer (some ⟨w1.heap.size,0,none⟩))).eval ox).run P w2 = .ok .skip (w2.setCells w1.heap.size 0 vs.toList):=by
  unfold execOp
  simp only [hxo,hde,hxe,Instr.storeAt,Instr.sureAddr,Sem.run_bind,Sem.run_pure,Result.andThen_ok,run_storeVar_mid w2 w1.heap.size 0 ty vs (by have:=hB2.there; rwa [← hsz] at this) hi2 (by simpa using h1)]
 have hgr:=setCells_grown w1.heap.size vs.toList 0 w2
 have hC3:Below W.heap.size W (w2.setCells w1.heap.size 0 vs.toList):=bel_only hC2 hgr (fun q hq=>by injection hq; omega)
 refine M3.mix_skip (w2.setCells w1.heap.size 0 vs.toList) hox (by simp [Region.wanted,hgx]) hrun ⟨hC3,?_⟩
 rw [hdx]
 have hB3:=hB2.setAll hsz
 refine M3.mix_step [iz] r3 (by simp) ?_
 intro w3 hC4 hb3 i hi'
 rw [List.mem_singleton] at hi'
 subst hi'
 have hrun2:(execOp ((aE.put (some d) (.pointer (some ⟨w1.heap.size,0,none⟩))).put none undef).eval oz).run P w3 = .ok (.value v) w3:=by
  unfold execOp
  simp only [hzo,hze,Sem.run_pure]
 refine M3.mix_val v w3 hoz (by simp [Region.wanted,hgz]) hrun2 ⟨hC4,?_⟩
 rw [hdz]
 refine M3.mix_end r4 ?_
 intro w4 hC5 hb4
 exact hQ0 _ _ (M _ w4 hge ((hB3.adv hb3).adv hb4) hC5)
theorem wp_region_fin {P:Program} {id:Nat} {Q:Exit→Act→World→Prop} {a aE : Act} {W:World} {L:List Oper} (is:List Nat) (ix:Nat) {ox:Oper}
  (hm:P.follows .mixedOrders = true) (hs:Region.noSelect L.toArray = true) (hn:1+is.length = L.length)
  (hi:(is.all (fun i=>decide (i < L.toArray.size)) && is.all (M5.lastOf .any L.toArray ix) && M3.lexSel .any L.toArray is (Array.replicate L.length false)) = true) (hd:M3.dstsOk a.tmps.size (M3.opsAt L.toArray is) = true)
  (r1:Region.ready .any L.toArray (M3.listSel is (Array.replicate L.length false)) = [ix]) (r2:Region.ready .any L.toArray ((M3.listSel is (Array.replicate L.length false)).setIfInBounds ix true) = [])
  (hox:L.toArray[ix]? = some ox) (hdx:ox.dst = none) (hgx:ox.guard = none)
  (H:∀ F:World→Prop,Stable F→Inhabited (BwC (fun w'=>Below W.heap.size W w') F)→wpQuiet P L.toArray (fun w'=>∃ p:BwC (fun w'=>Below W.heap.size W w') F,w' = p.w') (fun a'=>a' = aE) (M3.opsAt L.toArray is) a)
  (M:∀ w',Below W.heap.size W w'→∃ w2,(execOp aE.eval ox).run P w' = .ok .skip w2∧Q .normal (aE.put none undef) w2) : (Code.region id L.toArray true).wp P Q a W:=by
 refine M5.wp_region_sel (C:=fun w'=>Below W.heap.size W w') (stable_below _ _ (Nat.le_refl _)) (Below.refl _ _) is 1 ix hm hs hn hi hd H ?_
 intro Q0 hQ0
 refine M5.mix_last r1 r2 ?_
 intro w1 hC1 _
 obtain ⟨w2,hrun,hq⟩:=M w1 hC1
 refine M3.mix_skip w2 hox (by simp [Region.wanted,hgx]) hrun ?_
 rw [hdx]
 exact hQ0 _ _ hq
theorem mix_pure5 {P:Program} {ops:Array Oper} {md:Region.Mode} {C:World→Prop} {s:Nat} {Q:Act→World→Prop} {n:Nat} {listed:Array Bool} {a:Act} {w:World} (k:Nat) {o:Oper} (v:Value) (hr:Region.ready md ops listed = [k]) (hk:k ≠ s) (ho:ops[k]? = some o) (hg:o.guard = none)
  (hrun:∀ w',(execOp a.eval o).run P w' = .ok (.value v) w') (h:M5.wpMix P md ops C s Q n (listed.setIfInBounds k true) (a.put o.dst v) w) : M5.wpMix P md ops C s Q (n+1) listed a w:=by
 intro w' c b
 refine ⟨fun e=>(by rw [hr] at e; cases e),fun j hj=>?_⟩
 rw [hr,List.mem_singleton] at hj
 subst hj
 simp only [if_neg hk]
 exact M3.mix_val v w' ho (by simp [Region.wanted,hg]) (hrun w') ⟨c,M5.wpMix_mono h b⟩
theorem wp_region_fin2 {P:Program} {id:Nat} {Q:Exit→Act→World→Prop} {a aE : Act} {W:World} {L:List Oper} (is:List Nat) (k1 k2 ix : Nat) {o1 o2 ox : Oper} (v1 v2 : Value)
  (hm:P.follows .mixedOrders = true) (hs:Region.noSelect L.toArray = true) (hn:3+is.length = L.length)
  (hi:(is.all (fun i=>decide (i < L.toArray.size)) && is.all (M5.lastOf .any L.toArray ix) && M3.lexSel .any L.toArray is (Array.replicate L.length false)) = true) (hd:M3.dstsOk a.tmps.size (M3.opsAt L.toArray is) = true)
  (r1:Region.ready .any L.toArray (M3.listSel is (Array.replicate L.length false)) = [k1]) (r2:Region.ready .any L.toArray ((M3.listSel is (Array.replicate L.length false)).setIfInBounds k1 true) = [k2])
  (r3:Region.ready .any L.toArray (((M3.listSel is (Array.replicate L.length false)).setIfInBounds k1 true).setIfInBounds k2 true) = [ix])
  (r4:Region.ready .any L.toArray ((((M3.listSel is (Array.replicate L.length false)).setIfInBounds k1 true).setIfInBounds k2 true).setIfInBounds ix true) = [])
  (hk:(decide (k1 ≠ ix) && decide (k2 ≠ ix)) = true)
  (ho1:L.toArray[k1]? = some o1) (ho2:L.toArray[k2]? = some o2) (hox:L.toArray[ix]? = some ox) (hg1:o1.guard = none) (hg2:o2.guard = none) (hdx:ox.dst = none) (hgx:ox.guard = none)
  (H:∀ F:World→Prop,Stable F→Inhabited (BwC (fun w'=>Below W.heap.size W w') F)→wpQuiet P L.toArray (fun w'=>∃ p:BwC (fun w'=>Below W.heap.size W w') F,w' = p.w') (fun a'=>a' = aE) (M3.opsAt L.toArray is) a)
  (E1:∀ w,(execOp aE.eval o1).run P w = .ok (.value v1) w) (E2:∀ w,(execOp (aE.put o1.dst v1).eval o2).run P w = .ok (.value v2) w)
  (M:∀ w',Below W.heap.size W w'→∃ w2,(execOp ((aE.put o1.dst v1).put o2.dst v2).eval ox).run P w' = .ok .skip w2∧Q .normal (((aE.put o1.dst v1).put o2.dst v2).put none undef) w2) : (Code.region id L.toArray true).wp P Q a W:=by
 simp only [Bool.and_eq_true,decide_eq_true_eq] at hk
 refine M5.wp_region_sel (C:=fun w'=>Below W.heap.size W w') (stable_below _ _ (Nat.le_refl _)) (Below.refl _ _) is 3 ix hm hs hn hi hd H ?_
 intro Q0 hQ0
 refine mix_pure5 k1 v1 r1 hk.1 ho1 hg1 E1 ?_
 refine mix_pure5 k2 v2 r2 hk.2 ho2 hg2 E2 ?_
 refine M5.mix_last r3 r4 ?_
 intro w1 hC1 _
 obtain ⟨w2,hrun,hq⟩:=M w1 hC1
 refine M3.mix_skip w2 hox (by simp [Region.wanted,hgx]) hrun ?_
 rw [hdx]
 exact hQ0 _ _ hq
end Go.Proofs.YtopekilofdadnaaGreatDoor
