/- Joined texts: Box P32d CmpS Cmp MapE Shelf ShelfD SortD Take. Conditions: as stated. -/
import Derived.WalkKit
import Derived.WalkSpells
import Derived.WalkLawsBesides
import Derived.Deep.QuietTactic
import Derived.BigQuiet
import Derived.Lib.Hide
import Derived.Test.YtlhkojcmcmkmaaaGreatRows
import Derived.Maps.RangeWalk
import Derived.Maps.OwnOps
import Derived.Maps.Ext
import Derived.Sort.KeysCollected
import Derived.Shelf.SlGeneric
import Derived.Shelf.SlSortCmp.WholeK
import Derived.Shelf.SlSortCmp.NoneTotal
import Derived.Ground.SlsfProg
import Derived.Test.YtlhkojcmcmkmaaaGreatProg
import Derived.StillTailTactics
import Derived.Test.YtlhkojcmcmkmaaaGreatJData
import Derived.Test.YtlhkojcmcmkmaaaGreatJElem
import Derived.Test.YtlhkojcmcmkmaaaGreatJNetT
import Derived.Test.YtlhkojcmcmkmaaaGreatJDedV
import Derived.Test.YtlhkojcmcmkmaaaGreatJMix4
import Derived.Test.YtlhkojcmcmkmaaaGreatJNetM
namespace Go.Proofs.YtlhkojcmcmkmaaaGreat
open Go.RowKit
theorem BwC.cellB {F:World→Prop} {W:World} {a:Addr} {v:Value} (hlt:a.block < W.heap.size) (h:W.cell? a = some v) (p:BwC (fun w'=>Below W.heap.size W w') F) : p.w'.cell? a = some v:=(p.h.cell hlt).trans h
theorem wp_region_box {P:Program} {id:Nat} {Q:Exit→Act→World→Prop} {a aE : Act} {W:World} {L:List Oper} (is:List Nat) (ia ix : Nat) {d:Nat} {t ty : TypeId} {zs:Array Value} (vs:Array Value) {x:Operand} {oa ox : Oper}
  (hm:P.follows .mixedOrders = true) (hs:Region.noSelect L.toArray = true) (hn:2+is.length = L.length)
  (hi:is.all (fun i=>decide (i < L.toArray.size)) = true) (hB:M3.lexSel .any L.toArray is (Array.replicate L.length false) = true) (hd:M3.dstsOk a.tmps.size (M3.opsAt L.toArray is) = true)
  (r1:Region.ready .any L.toArray (M3.listSel is (Array.replicate L.length false)) = [ia]) (r2:Region.ready .any L.toArray ((M3.listSel is (Array.replicate L.length false)).setIfInBounds ia true) = [ix])
  (r3:Region.ready .any L.toArray (((M3.listSel is (Array.replicate L.length false)).setIfInBounds ia true).setIfInBounds ix true) = [])
  (hoa:L.toArray[ia]? = some oa) (hox:L.toArray[ix]? = some ox) (hda:oa.dst = some d) (hga:oa.guard = none) (hdx:ox.dst = none) (hgx:ox.guard = none) (hxo:ox.op = .store ty (.tmp d) x)
  (hra:∀ (b:Act) (w:World),(execOp b.eval oa).run P w = .ok (.value (.pointer (some ⟨w.heap.size,0,none⟩))) (w.alloc (.cells zs t)))
  (hsz:vs.size = zs.size) (hi2:(P.info? ty).map (·.size) = some vs.size) (h1:vs.toList.all (·.oneCell') = true)
  (H:∀ F:World→Prop,Stable F→Inhabited (BwC (fun w'=>Below W.heap.size W w') F)→wpQuiet P L.toArray (fun w'=>∃ p:BwC (fun w'=>Below W.heap.size W w') F,w' = p.w') (fun a'=>a' = aE) (M3.opsAt L.toArray is) a)
  (E:∀ g,(aE.put (some d) (.pointer (some ⟨g,0,none⟩))).eval x = .agg vs∧(aE.put (some d) (.pointer (some ⟨g,0,none⟩))).eval (.tmp d) = .pointer (some ⟨g,0,none⟩))
  (M:∀ g w',W.heap.size≤g→Blk w' g t vs→Below W.heap.size W w'→Q .normal ((aE.put (some d) (.pointer (some ⟨g,0,none⟩))).put none undef) w') : (Code.region id L.toArray true).wp P Q a W:=by
 have hxe:=fun g=>(E g).1
 have hde:=fun g=>(E g).2
 refine M3.wp_region_sel (C:=fun w'=>Below W.heap.size W w') (stable_below _ _ (Nat.le_refl _)) (Below.refl _ _) is 2 hm hs hn hi hB hd H ?_
 intro Q0 hQ0
 refine M3.mix_step [ia] r1 (by simp) ?_
 intro w1 hC1 _ i hi'
 rw [List.mem_singleton] at hi'
 subst hi'
 refine M3.mix_val (.pointer (some ⟨w1.heap.size,0,none⟩)) (w1.alloc (.cells zs t)) hoa (by simp [Region.wanted,hga]) (hra _ _) ⟨bel_alloc hC1 _,?_⟩
 rw [hda]
 refine M3.mix_step [ix] r2 (by simp) ?_
 intro w2 hC2 hb2 i hi'
 rw [List.mem_singleton] at hi'
 subst hi'
 have hB2:=(Blk.new w1 t zs).adv hb2
 have hge:=hC1.size
 have hrun:(execOp (aE.put (some d) (.pointer (some ⟨w1.heap.size,0,none⟩))).eval ox).run P w2 = .ok .skip (w2.setCells w1.heap.size 0 vs.toList):=by
  unfold execOp
  simp only [hxo,hde,hxe,Instr.storeAt,Instr.sureAddr,Sem.run_bind,Sem.run_pure,Result.andThen_ok,run_storeVar_mid w2 w1.heap.size 0 ty vs (by have:=hB2.there; rwa [← hsz] at this) hi2 (by simpa using h1)]
 have hgr:=setCells_grown w1.heap.size vs.toList 0 w2
 have hC3:Below W.heap.size W (w2.setCells w1.heap.size 0 vs.toList):=bel_only hC2 hgr (fun q hq=>by injection hq; omega)
 refine M3.mix_skip (w2.setCells w1.heap.size 0 vs.toList) hox (by simp [Region.wanted,hgx]) hrun ⟨hC3,?_⟩
 rw [hdx]
 refine M3.mix_end r3 ?_
 intro w3 hC4 hb3
 exact hQ0 _ _ (M _ w3 hge ((hB2.setAll hsz).adv hb3) hC4)
theorem wp_region_box1 {P:Program} {id:Nat} {Q:Exit→Act→World→Prop} {a aE : Act} {W:World} {L:List Oper} (is:List Nat) (ia ix iz : Nat) {d dz : Nat} {t ty : TypeId} {zs:Array Value} (vs:Array Value) (v:Value) {x y : Operand} {oa ox oz : Oper}
  (hm:P.follows .mixedOrders = true) (hs:Region.noSelect L.toArray = true) (hn:3+is.length = L.length)
  (hi:is.all (fun i=>decide (i < L.toArray.size)) = true) (hB:M3.lexSel .any L.toArray is (Array.replicate L.length false) = true) (hd:M3.dstsOk a.tmps.size (M3.opsAt L.toArray is) = true)
  (r1:Region.ready .any L.toArray (M3.listSel is (Array.replicate L.length false)) = [ia]) (r2:Region.ready .any L.toArray ((M3.listSel is (Array.replicate L.length false)).setIfInBounds ia true) = [ix])
  (r3:Region.ready .any L.toArray (((M3.listSel is (Array.replicate L.length false)).setIfInBounds ia true).setIfInBounds ix true) = [iz])
  (r4:Region.ready .any L.toArray ((((M3.listSel is (Array.replicate L.length false)).setIfInBounds ia true).setIfInBounds ix true).setIfInBounds iz true) = [])
  (hoa:L.toArray[ia]? = some oa) (hox:L.toArray[ix]? = some ox) (hoz:L.toArray[iz]? = some oz) (hda:oa.dst = some d) (hga:oa.guard = none) (hdx:ox.dst = none) (hgx:ox.guard = none) (hxo:ox.op = .store ty (.tmp d) x)
  (hdz:oz.dst = some dz) (hgz:oz.guard = none) (hzo:oz.op = .assign y)
  (hra:∀ (b:Act) (w:World),(execOp b.eval oa).run P w = .ok (.value (.pointer (some ⟨w.heap.size,0,none⟩))) (w.alloc (.cells zs t)))
  (hsz:vs.size = zs.size) (hi2:(P.info? ty).map (·.size) = some vs.size) (h1:vs.toList.all (·.oneCell') = true)
  (H:∀ F:World→Prop,Stable F→Inhabited (BwC (fun w'=>Below W.heap.size W w') F)→wpQuiet P L.toArray (fun w'=>∃ p:BwC (fun w'=>Below W.heap.size W w') F,w' = p.w') (fun a'=>a' = aE) (M3.opsAt L.toArray is) a)
  (E:∀ g,(aE.put (some d) (.pointer (some ⟨g,0,none⟩))).eval x = .agg vs∧(aE.put (some d) (.pointer (some ⟨g,0,none⟩))).eval (.tmp d) = .pointer (some ⟨g,0,none⟩)∧((aE.put (some d) (.pointer (some ⟨g,0,none⟩))).put none undef).eval y = v)
  (M:∀ g w',W.heap.size≤g→Blk w' g t vs→Below W.heap.size W w'→Q .normal (((aE.put (some d) (.pointer (some ⟨g,0,none⟩))).put none undef).put (some dz) v) w') : (Code.region id L.toArray true).wp P Q a W:=by
 have hxe:=fun g=>(E g).1
 have hde:=fun g=>(E g).2.1
 have hze:=fun g=>(E g).2.2
 refine M3.wp_region_sel (C:=fun w'=>Below W.heap.size W w') (stable_below _ _ (Nat.le_refl _)) (Below.refl _ _) is 3 hm hs hn hi hB hd H ?_
 intro Q0 hQ0
 refine M3.mix_step [ia] r1 (by simp) ?_
 intro w1 hC1 _ i hi'
 rw [List.mem_singleton] at hi'
 subst hi'
 refine M3.mix_val (.pointer (some ⟨w1.heap.size,0,none⟩)) (w1.alloc (.cells zs t)) hoa (by simp [Region.wanted,hga]) (hra _ _) ⟨bel_alloc hC1 _,?_⟩
 rw [hda]
 refine M3.mix_step [ix] r2 (by simp) ?_
 intro w2 hC2 hb2 i hi'
 rw [List.mem_singleton] at hi'
 subst hi'
 have hB2:=(Blk.new w1 t zs).adv hb2
 have hge:=hC1.size
 have hrun:(execOp (aE.put (some d) (.pointer (some ⟨w1.heap.size,0,none⟩))).eval ox).run P w2 = .ok .skip (w2.setCells w1.heap.size 0 vs.toList):=by
  unfold execOp
  simp only [hxo,hde,hxe,Instr.storeAt,Instr.sureAddr,Sem.run_bind,Sem.run_pure,Result.andThen_ok,run_storeVar_mid w2 w1.heap.size 0 ty vs (by have:=hB2.there; rwa [← hsz] at this) hi2 (by simpa using h1)]
 have hgr:=setCells_grown w1.heap.size vs.toList 0 w2
 have hC3:Below W.heap.size W (w2.setCells w1.heap.size 0 vs.toList):=bel_only hC2 hgr (fun q hq=>by injection hq; omega)
 refine M3.mix_skip (w2.setCells w1.heap.size 0 vs.toList) hox (by simp [Region.wanted,hgx]) hrun ⟨hC3,?_⟩
 rw [hdx]
 have hB3:=hB2.setAll hsz
 refine M3.mix_step [iz] r3 (by simp) ?_
 intro w3 hC4 hb3 i hi'
 rw [List.mem_singleton] at hi'
 subst hi'
 have hrun2:(execOp ((aE.put (some d) (.pointer (some ⟨w1.heap.size,0,none⟩))).put none undef).eval oz).run P w3 = .ok (.value v) w3:=by
  unfold execOp
  simp only [hzo,hze,Sem.run_pure]
 refine M3.mix_val v w3 hoz (by simp [Region.wanted,hgz]) hrun2 ⟨hC4,?_⟩
 rw [hdz]
 refine M3.mix_end r4 ?_
 intro w4 hC5 hb4
 exact hQ0 _ _ (M _ w4 hge ((hB3.adv hb3).adv hb4) hC5)
theorem wp_region_fin {P:Program} {id:Nat} {Q:Exit→Act→World→Prop} {a aE : Act} {W:World} {L:List Oper} (is:List Nat) (ix:Nat) {ox:Oper}
  (hm:P.follows .mixedOrders = true) (hs:Region.noSelect L.toArray = true) (hn:1+is.length = L.length)
  (hi:(is.all (fun i=>decide (i < L.toArray.size)) && is.all (M5.lastOf .any L.toArray ix) && M3.lexSel .any L.toArray is (Array.replicate L.length false)) = true) (hd:M3.dstsOk a.tmps.size (M3.opsAt L.toArray is) = true)
  (r1:Region.ready .any L.toArray (M3.listSel is (Array.replicate L.length false)) = [ix]) (r2:Region.ready .any L.toArray ((M3.listSel is (Array.replicate L.length false)).setIfInBounds ix true) = [])
  (hox:L.toArray[ix]? = some ox) (hdx:ox.dst = none) (hgx:ox.guard = none)
  (H:∀ F:World→Prop,Stable F→Inhabited (BwC (fun w'=>Below W.heap.size W w') F)→wpQuiet P L.toArray (fun w'=>∃ p:BwC (fun w'=>Below W.heap.size W w') F,w' = p.w') (fun a'=>a' = aE) (M3.opsAt L.toArray is) a)
  (M:∀ w',Below W.heap.size W w'→∃ w2,(execOp aE.eval ox).run P w' = .ok .skip w2∧Q .normal (aE.put none undef) w2) : (Code.region id L.toArray true).wp P Q a W:=by
 refine M5.wp_region_sel (C:=fun w'=>Below W.heap.size W w') (stable_below _ _ (Nat.le_refl _)) (Below.refl _ _) is 1 ix hm hs hn hi hd H ?_
 intro Q0 hQ0
 refine M5.mix_last r1 r2 ?_
 intro w1 hC1 _
 obtain ⟨w2,hrun,hq⟩:=M w1 hC1
 refine M3.mix_skip w2 hox (by simp [Region.wanted,hgx]) hrun ?_
 rw [hdx]
 exact hQ0 _ _ hq
theorem mix_pure5 {P:Program} {ops:Array Oper} {md:Region.Mode} {C:World→Prop} {s:Nat} {Q:Act→World→Prop} {n:Nat} {listed:Array Bool} {a:Act} {w:World} (k:Nat) {o:Oper} (v:Value) (hr:Region.ready md ops listed = [k]) (hk:k ≠ s) (ho:ops[k]? = some o) (hg:o.guard = none)
  (hrun:∀ w',(execOp a.eval o).run P w' = .ok (.value v) w') (h:M5.wpMix P md ops C s Q n (listed.setIfInBounds k true) (a.put o.dst v) w) : M5.wpMix P md ops C s Q (n+1) listed a w:=by
 intro w' c b
 refine ⟨fun e=>(by rw [hr] at e; cases e),fun j hj=>?_⟩
 rw [hr,List.mem_singleton] at hj
 subst hj
 simp only [if_neg hk]
 exact M3.mix_val v w' ho (by simp [Region.wanted,hg]) (hrun w') ⟨c,M5.wpMix_mono h b⟩
theorem wp_region_fin2 {P:Program} {id:Nat} {Q:Exit→Act→World→Prop} {a aE : Act} {W:World} {L:List Oper} (is:List Nat) (k1 k2 ix : Nat) {o1 o2 ox : Oper} (v1 v2 : Value)
  (hm:P.follows .mixedOrders = true) (hs:Region.noSelect L.toArray = true) (hn:3+is.length = L.length)
  (hi:(is.all (fun i=>decide (i < L.toArray.size)) && is.all (M5.lastOf .any L.toArray ix) && M3.lexSel .any L.toArray is (Array.replicate L.length false)) = true) (hd:M3.dstsOk a.tmps.size (M3.opsAt L.toArray is) = true)
  (r1:Region.ready .any L.toArray (M3.listSel is (Array.replicate L.length false)) = [k1]) (r2:Region.ready .any L.toArray ((M3.listSel is (Array.replicate L.length false)).setIfInBounds k1 true) = [k2])
  (r3:Region.ready .any L.toArray (((M3.listSel is (Array.replicate L.length false)).setIfInBounds k1 true).setIfInBounds k2 true) = [ix])
  (r4:Region.ready .any L.toArray ((((M3.listSel is (Array.replicate L.length false)).setIfInBounds k1 true).setIfInBounds k2 true).setIfInBounds ix true) = [])
  (hk:(decide (k1 ≠ ix) && decide (k2 ≠ ix)) = true)
  (ho1:L.toArray[k1]? = some o1) (ho2:L.toArray[k2]? = some o2) (hox:L.toArray[ix]? = some ox) (hg1:o1.guard = none) (hg2:o2.guard = none) (hdx:ox.dst = none) (hgx:ox.guard = none)
  (H:∀ F:World→Prop,Stable F→Inhabited (BwC (fun w'=>Below W.heap.size W w') F)→wpQuiet P L.toArray (fun w'=>∃ p:BwC (fun w'=>Below W.heap.size W w') F,w' = p.w') (fun a'=>a' = aE) (M3.opsAt L.toArray is) a)
  (E1:∀ w,(execOp aE.eval o1).run P w = .ok (.value v1) w) (E2:∀ w,(execOp (aE.put o1.dst v1).eval o2).run P w = .ok (.value v2) w)
  (M:∀ w',Below W.heap.size W w'→∃ w2,(execOp ((aE.put o1.dst v1).put o2.dst v2).eval ox).run P w' = .ok .skip w2∧Q .normal (((aE.put o1.dst v1).put o2.dst v2).put none undef) w2) : (Code.region id L.toArray true).wp P Q a W:=by
 simp only [Bool.and_eq_true,decide_eq_true_eq] at hk
 refine M5.wp_region_sel (C:=fun w'=>Below W.heap.size W w') (stable_below _ _ (Nat.le_refl _)) (Below.refl _ _) is 3 ix hm hs hn hi hd H ?_
 intro Q0 hQ0
 refine mix_pure5 k1 v1 r1 hk.1 ho1 hg1 E1 ?_
 refine mix_pure5 k2 v2 r2 hk.2 ho2 hg2 E2 ?_
 refine M5.mix_last r3 r4 ?_
 intro w1 hC1 _
 obtain ⟨w2,hrun,hq⟩:=M w1 hC1
 refine M3.mix_skip w2 hox (by simp [Region.wanted,hgx]) hrun ?_
 rw [hdx]
 exact hQ0 _ _ hq
end Go.Proofs.YtlhkojcmcmkmaaaGreat
namespace Go.Proofs.YtlhkojcmcmkmaaaGreat
open Go.RowKit
theorem linesK_zero (k:Int) (c:ByteArray) : linesK k [⟨c,0⟩] = []:=by simp [linesK,nz]
theorem linesK_one (k:Int) (c:ByteArray) {n:Int} (h:n ≠ 0) : linesK k [⟨c,n⟩] = [⟨k,c,n⟩]:=by
 rw [linesK,List.filter_cons_of_pos (by simp [nz,h])]; rfl
set_option maxRecDepth 100000 in
set_option maxHeartbeats 1000000 in
theorem lineP32 {w0:World} {g:Nat} {c:CalF} {s:CalS} {ls:List LineT} {w:World} (h:CalI w0 g c s ls w) (kind:Int) (code:ByteArray) (amount:Int) (hl:ls.length≤1000000) :
  Calls Tryz.prog 104 #[.pointer (some ⟨g,0,none⟩),.int .i64 kind,.string code,.int .i64 amount] w fun e w'=>e = .returned (.tuple #[])∧∃ v',CalI w0 g c { s with lv:=v' } (ls++linesK kind [⟨code,amount⟩]) w'∧Mv g s.lv w v' w':=by
 have HG:=Lib.hid (fun v' w' ls' n=>h.grow (w':=w') (v':=v') (ls':=ls') (n:=n))
 have HI:=Lib.hid h
 have ho:=h.own
 have hs0:=h.bel.size
 have z32:w.cell? ⟨g,32,none⟩ = some s.lv:=h.blk.cell 32
 have hB:=Lib.hid h.blk
 have hfar:=Lib.hid h.far
 clear h
 go_enter Tryz.func104,Tryz.ntmps104
 by_cases h0:amount = 0
 ·
  subst h0
  go_wp2
  go_end0
  exact ⟨rfl,s.lv,by rw [linesK_zero,List.append_nil]; exact HI.out,Mv.refl _ _ _⟩
 ·
  have HL:=Lib.hid (linesK_one kind code h0)
  have hne:(amount != 0) = true:=by simp [h0]
  go_wp2_with (at_builtin; (refine wpList_append_one_at _ _ 25 ⟨kind,code,amount⟩ _ 32 _ infoL Tryz.underlying25 ho encL_len (by omega) rfl (encL_one _) (by omega) (by omega) (by omega) (by rfl) (by rfl) (by rfl) (by rfl) (by simp) (by rfl) ?_); intro v5 w5 hN5 hg5 hvo; obtain ⟨A5,c5,hv5,_,_,_,_⟩:=hN5.form2 encL_len; subst hv5; have hB5:=hB.out.grown hg5 (fun e=>hfar.out e.symm); have f5:=hB5.frozen 32; have z5:w5.cell? ⟨g,32,none⟩ = some s.lv:=hB5.cell 32)
  have hG:=HG.out _ w5 _ _ hN5 hg5 hvo
  simp only [List.length_append,List.length_cons,List.length_nil,Nat.zero_add] at hG
  rw [← HL.out] at hG
  go_end0
  exact ⟨rfl,_,hG⟩
set_option maxRecDepth 100000 in
set_option maxHeartbeats 1000000 in
theorem bearP32 {w0:World} {g:Nat} {c:CalF} {s:CalS} {ls:List LineT} {w:World} (h:CalI w0 g c s ls w) (kind:Int) (A:Option Addr) (cap:Nat) (l:List Elem) (hA:Lst encE 2 w g s.lv A l) (hl:ls.length≤1000) (hll:l.length≤128)
  (hb : -1000000000000000≤s.left∧s.left≤1000000000000000) (hx:∀ x ∈ l,0≤x.amount∧x.amount≤1000000000000) :
  Calls Tryz.prog 106 #[.pointer (some ⟨g,0,none⟩),.int .i64 kind,.slice A l.length cap] w fun e w'=>e = .returned (.tuple #[])∧∃ v',CalI w0 g c { s with lv:=v',left:=s.left - sumE l } (ls++linesK kind l) w'∧Mv g s.lv w v' w':=by
 have HX:=Lib.hid hx
 have HI:=Lib.hid h
 have HA:=Lib.hid hA
 clear hx h hA
 obtain ⟨b0,b1⟩:=hb
 have HLE:Hid (∀ k,k≤l.length→(linesK kind (l.take k)).length≤128):=fun k hk=>by
  have:=List.length_filter_le nz (l.take k)
  simp only [linesK,List.length_map,List.length_take] at this ⊢
  omega
 have HSB:Hid (∀ k,k≤l.length→0≤sumE (l.take k)∧sumE (l.take k)≤128000000000000):=fun k hk=>by
  have:=sumE_bd (l.take k) 1000000000000 (fun x hx=>HX.out x (List.mem_of_mem_take hx))
  rw [List.length_take] at this
  omega
 go_enter Tryz.func106,Tryz.ntmps106
 go_wp2_with fail
 go_loopw [10] (fun i wr=>∃ (k:Nat) (v':Value),k≤l.length∧i = .int .i64 k∧CalI w0 g c { s with lv:=v',left:=s.left - sumE (l.take k) } (ls++linesK kind (l.take k)) wr∧Mv g s.lv w v' wr) (fun i _=>l.length - (intOf i).toNat)
 case atStart=>exact ⟨0,s.lv,by omega,rfl,by simpa [linesK,sumE] using HI.out,Mv.refl _ _ _⟩
 case round =>
  rename World=>wr
  obtain ⟨k,vl,hk,rfl,hI,hm⟩:=hrel
  by_cases hlt:k < l.length
  ·
   obtain ⟨b,off,hAe,hbb,hc⟩:=(HA.out.mv hm).sl.at_ hlt
   have c0:=hc 0 _ rfl
   have c1:=hc 1 _ rfl
   simp only [Nat.add_zero] at c0
   rw [hAe]
   have HT:Hid (l.take (k+1) = l.take k++[l[k]]):=List.take_succ_eq_append_getElem hlt
   have HS:Hid (sumE (l.take (k+1)) = sumE (l.take k)+l[k].amount):=sumE_take l k hlt
   have hki:(k:Int) < (l.length:Int):=by omega
   obtain ⟨x0,x1⟩:=HX.out _ (List.getElem_mem hlt)
   obtain ⟨s0,s1⟩:=HSB.out k (by omega)
   have hl3:=HLE.out k (by omega)
   have HT2:Hid (linesK kind (l.take (k+1)) = linesK kind (l.take k)++linesK kind [l[k]]):=by rw [Hid,HT.out,linesK_append]
   clear hc HT
   generalize l[k] = x at *
   generalize sumE (l.take k) = q at *
   have hBo:=Blk.new wr 69 #[.string x.code,.int .i64 x.amount]
   have hbn:=below_new wr (.cells #[.string x.code,.int .i64 x.amount] 69)
   have hfr:vl.ownBlock ≠ some wr.heap.size:=fun e=>by have:=(hI.row _ e).2; omega
   have hgr:wr.heap.size ≠ g:=by have:=hI.lt; omega
   go_upto_region 3 with fail
   generalize wr.alloc (Obj.cells _ _) = W1 at hBo hbn ⊢
   have hI1:=hI.adv hbn
   have hm1:=hm.trans (Mv.bel hbn)
   have z0:=hBo.cell 0
   have z1:=hBo.cell 1
   simp only [nqg,nqh,nqi] at z0 z1
   clear hI hbn c0 c1 hm
   go_wp2_with fail
   refine (lineP32 hI1 kind x.code x.amount (by simp; omega)).mono ?_
   rintro e w2 ⟨rfl,v2,hI2,hm2⟩
   have hB2:=hBo.mv hm2 hgr hfr
   have hm3:=hm1.trans hm2
   rw [List.append_assoc,← HT2.out] at hI2
   have hlt2:=hI2.lt
   have hlb2:=hB2.lt
   have zz33:w2.cell? ⟨g,33,none⟩ = some (.int .i64 (s.left - q)):=hI2.blk.cell 33
   have yy1:w2.cell? ⟨wr.heap.size,1,none⟩ = some (.int .i64 x.amount):=hB2.cell 1
   clear z0 z1 hBo hB2 hI1 hm1 hm2
   go_upto_region 4 with fail
   refine wp_region_fin2 (aE:=?aE1) [0,1,2,3,4,5,6] 7 8 9 (.pointer (some ⟨g,0,none⟩)) (.pointer (some ⟨g,33,none⟩)) (by kernel_rfl) (by kernel_rfl) rfl (by kernel_rfl) (by rfl) (by kernel_rfl) (by kernel_rfl) (by kernel_rfl) (by kernel_rfl) rfl rfl rfl rfl rfl rfl rfl rfl ?H1 ?E1 ?G1 ?M1
   case H1 =>
    intro F hF inst
    simp only [M3.opsAt,List.getElem?_toArray,List.getElem?_cons_zero,List.getElem?_cons_succ]
    have e33:=BwC.cellB (F:=F) (a:=⟨g,33,none⟩) (by exact hlt2) zz33
    have d1:=BwC.cellB (F:=F) (a:=⟨wr.heap.size,1,none⟩) (by exact hlb2) yy1
    repeat (first | go_big_quiet_step (first | fail) | quiet_step (first | fail))
    refine wpQuiet_nil ?_
    rfl
   case E1=>exact fun _=>by first | rfl | go_simp
   case G1=>exact fun _=>by first | rfl | go_simp
   case M1 =>
    intro w4 hb4
    try simp only [Act.put,List.setIfInBounds_toArray]
    have hI4:=hI2.adv hb4
    have hm4:=hm3.trans (Mv.bel hb4)
    have e33:w4.cell? ⟨g,33,none⟩ = some (.int .i64 (s.left - q)):=hI4.blk.cell 33
    have f33:=hI4.blk.frozen 33
    refine ⟨w4.setCell ⟨g,33,none⟩ (.int .i64 (s.left - q - x.amount)),by go_simp,?_⟩
    have hI5:=hI4.putLeft (s.left - q - x.amount)
    have hm5:=hm4.trans (Mv.set 33 (.int .i64 (s.left - q - x.amount)))
    generalize w4.setCell ⟨g,33,none⟩ (.int .i64 (s.left - q - x.amount)) = w5 at hI5 hm5 ⊢
    clear hI4 hm4 e33 f33 hI2 hm3 zz33 yy1
    go_wp2
    go_roundw
    case rel =>
     have hfin:∃ (k':Nat) (v':Value),k'≤l.length∧Value.int .i64 ((k:Int)+1) = .int .i64 k'∧CalI w0 g c { s with lv:=v',left:=s.left - sumE (l.take k') } (ls++linesK kind (l.take k')) w5∧Mv g s.lv w v' w5:=⟨k+1,v2,by omega,by go_num,by rw [HS.out,← Int.sub_sub]; exact hI5,hm5⟩
     first | exact hfin | ((repeat apply Exists.intro); exact ⟨hfin,rfl⟩)
    case measure=>simp [intOf]; omega
  ·
   obtain rfl:k = l.length:=by omega
   rw [List.take_length] at hI
   go_wp2
   go_end0
   exact ⟨rfl,vl,hI,hm⟩
end Go.Proofs.YtlhkojcmcmkmaaaGreat
namespace Go.Proofs.YtlhkojcmcmkmaaaGreat
open Go.RowKit
def cmpS (a b : ByteArray) : Int:=if Op.bytesLess a.toList b.toList then -1 else if !(Op.bytesLess a.toList b.toList || a.toList == b.toList) then 1 else 0
set_option maxHeartbeats 400000 in
theorem isNaN_any (a:ByteArray) (w:World) : Calls Tryz.prog 126 #[.string a] w fun e w'=>e = .returned (.bool false)∧w = w':=by
 go_enter Tryz.func126,Tryz.ntmps126
 go_wp2
 go_ret
 exact ⟨by simp,rfl⟩
set_option maxHeartbeats 400000 in
theorem compare_any (a b : ByteArray) (w:World) : Calls Tryz.prog 85 #[.string a,.string b] w fun e w'=>e = .returned (.int .i64 (cmpS a b))∧w = w':=by
 go_enter Tryz.func85,Tryz.ntmps85
 go_wp2_with (go_at_call 126; refine (isNaN_any _ _).mono ?_; rintro e w' ⟨rfl,rfl⟩)
 all_goals go_ret
 all_goals refine ⟨?_,rfl⟩
 all_goals (simp [cmpS, *]; try simp_all)
end Go.Proofs.YtlhkojcmcmkmaaaGreat

namespace Go.Proofs.YtlhkojcmcmkmaaaGreat
open Go.RowKit Go.Sort Go.Maps
theorem lawS : Keyed Tryz.prog 9:=string_keyed Tryz.underlying9
theorem zeroI (w:World) : (zeroValue 3).run Tryz.prog w = .ok (.int .i64 0) w:=by kernel_rfl
abbrev i64L (n:Int) : DataW Unit:=.lit (.int .i64 n)
structure MapD (D:DataW Unit) (K:List UInt8→Bool) (T:List UInt8→Int) : Prop where
 isMap:IsMap D
 has:∀ c,Maps.has D (.string c) = K c
 at_:∀ c,D.atKey (.string c) (i64L 0) = i64L (T c)
theorem length_insert1 (x:Lit × DataW Unit) : ∀ l,(DataW.insert x l).length = l.length+1
 | []=>rfl
 | y :: l=>by
  rw [DataW.insert]
  split
  ·
   rfl
  ·
   simp [length_insert1 x l]
theorem length_insertAll (l:List (Lit × DataW Unit)) : (l.foldr DataW.insert []).length = l.length:=by
 induction l with
 | nil=>rfl
 | cons a l ih=>rw [List.foldr_cons,length_insert1,ih]; rfl
theorem keyLit (s:ByteArray) : WideAt.IsKeyLit (key s):=trivial
theorem MapD.empty : MapD (.map []) (keyE []) (totE []):=⟨isMap_empty,fun _=>rfl,fun _=>rfl⟩
theorem MapD.put_ {D:DataW Unit} {K K' : List UInt8→Bool} {T T' : List UInt8→Int} (h:MapD D K T) (s:ByteArray) (n:Int) (hK : ∀ c,K' c = (K c || decide (s.data.toList = c))) (hT : ∀ c,T' c = if s.data.toList = c then n else T c) : MapD (D.put (key s) (i64L n)) K' T':=by
 refine ⟨h.isMap.put _ _,fun c=>?_,fun c=>?_⟩
 ·
  by_cases e:s.data.toList = c
  ·
   subst e
   rw [show Lit.string s.data.toList = key s from rfl,has_put_same h.isMap (keyLit s),hK]; simp
  ·
   rw [has_put_other (fun e'=>e (by simpa [key] using e'.symm)),h.has,hK]; simp [e]
 ·
  by_cases e:s.data.toList = c
  ·
   subst e
   rw [show Lit.string s.data.toList = key s from rfl,atKey_put_same h.isMap (keyLit s),hT]; simp
  ·
   rw [atKey_put_other (fun e'=>e (by simpa [key] using e'.symm)),h.at_,hT]; simp [e]
theorem wf64 {n:Int} (h1 : -9223372036854775808≤n) (h2:n≤9223372036854775807) : (Lit.int .i64 n).wf = true:=by
 simp [Lit.wf,IntKind.min,IntKind.max,IntKind.signed,IntKind.bits]; omega
theorem keyE_take (xs:List Elem) (k:Nat) (h:k < xs.length) (c:List UInt8) : keyE (xs.take (k+1)) c = (keyE (xs.take k) c || decide (xs[k].code.data.toList = c)):=by
 rw [List.take_succ_eq_append_getElem h,keyE_append]; simp [keyE]
theorem totE_take (xs:List Elem) (k:Nat) (h:k < xs.length) (c:List UInt8) : totE (xs.take (k+1)) c = totE (xs.take k) c+if xs[k].code.data.toList = c then xs[k].amount else 0:=by
 rw [List.take_succ_eq_append_getElem h,totE_append]; simp [totE]
end Go.Proofs.YtlhkojcmcmkmaaaGreat
namespace Go.Proofs
open Go.Shelf
def Tryz.sortE_ren : Go.Shelf.Ren:=⟨fun | 6=>170 | 15=>173 | 14=>210 | 28=>219 | 29=>220 | 20=>231 | 21=>232 | 22=>233 | 23=>234 | 24=>235 | 25=>236 | 26=>237 | 27=>238 | 46=>259 | 47=>240 | 48=>241 | 49=>260 | 50=>261 | 57=>269 | n=>n,fun | 22=>51 | 24=>69 | 25=>189 | 3=>3 | 39=>192 | 0=>0 | 53=>225 | 55=>227 | 4=>4 | 46=>218 | 45=>217 | 50=>222 | 5=>5 | 9=>9 | 66=>239 | 70=>209 | 76=>255 | 77=>256 | n=>n,fun | n=>n⟩
theorem Tryz.sortE : Go.Proofs.SlLaysF0.n6 Tryz.prog Tryz.sortE_ren:={
 mixed:=by kernel_rfl
 f6:=⟨Tryz.f170.name,by decide,Tryz.func170.trans (congrArg some (by kernel_rfl))⟩
 f14:=⟨Tryz.f210.name,by decide,Tryz.func210.trans (congrArg some (by kernel_rfl))⟩
 f15:=Tryz.func173.trans (congrArg some (by kernel_rfl))
 f20:=⟨Tryz.f231.name,by decide,Tryz.func231.trans (congrArg some (by kernel_rfl))⟩
 f21:=⟨Tryz.f232.name,by decide,Tryz.func232.trans (congrArg some (by kernel_rfl))⟩
 f22:=⟨Tryz.f233.name,by decide,Tryz.func233.trans (congrArg some (by kernel_rfl))⟩
 f23:=⟨Tryz.f234.name,by decide,Tryz.func234.trans (congrArg some (by kernel_rfl))⟩
 f24:=⟨Tryz.f235.name,by decide,Tryz.func235.trans (congrArg some (by kernel_rfl))⟩
 f25:=⟨Tryz.f236.name,by decide,Tryz.func236.trans (congrArg some (by kernel_rfl))⟩
 f26:=⟨Tryz.f237.name,by decide,Tryz.func237.trans (congrArg some (by kernel_rfl))⟩
 f27:=⟨Tryz.f238.name,by decide,Tryz.func238.trans (congrArg some (by kernel_rfl))⟩
 f28:=Tryz.func219.trans (congrArg some (by kernel_rfl))
 f29:=Tryz.func220.trans (congrArg some (by kernel_rfl))
 f46:=⟨Tryz.f259.name,by decide,Tryz.func259.trans (congrArg some (by kernel_rfl))⟩
 f47:=Tryz.func240.trans (congrArg some (by kernel_rfl))
 f48:=Tryz.func241.trans (congrArg some (by kernel_rfl))
 f49:=⟨Tryz.f260.name,by decide,Tryz.func260.trans (congrArg some (by kernel_rfl))⟩
 f50:=⟨Tryz.f261.name,by decide,Tryz.func261.trans (congrArg some (by kernel_rfl))⟩
 f57:=⟨Tryz.f269.name,by decide,Tryz.func269.trans (congrArg some (by kernel_rfl))⟩
 t0:=Tryz.underlying0
 a0:=Tryz.isAgg0
 z0:=Tryz.sizeOf0
 v0:=Tryz.zeroValue0
 t3:=Tryz.underlying3
 a3:=Tryz.isAgg3
 z3:=Tryz.sizeOf3
 v3:=Tryz.zeroValue3
 t4:=Tryz.underlying4
 a4:=Tryz.isAgg4
 z4:=Tryz.sizeOf4
 v4:=Tryz.zeroValue4
 t5:=Tryz.underlying5
 a5:=Tryz.isAgg5
 z5:=Tryz.sizeOf5
 v5:=Tryz.zeroValue5
 t9:=Tryz.underlying9
 a9:=Tryz.isAgg9
 z9:=Tryz.sizeOf9
 v9:=Tryz.zeroValue9
 t22:=Tryz.underlying51
 a22:=Tryz.isAgg51
 z22:=Tryz.sizeOf51
 v22:=Tryz.zeroValue51
 t25:=Tryz.underlying189
 a25:=Tryz.isAgg189
 z25:=Tryz.sizeOf189
 v25:=Tryz.zeroValue189
 t39:=Tryz.underlying192
 a39:=Tryz.isAgg192
 z39:=Tryz.sizeOf192
 v39:=Tryz.zeroValue192
 t45:=Tryz.underlying217
 a45:=Tryz.isAgg217
 z45:=Tryz.sizeOf217
 v45:=Tryz.zeroValue217
 t46:=Tryz.underlying218
 a46:=Tryz.isAgg218
 z46:=Tryz.sizeOf218
 v46:=Tryz.zeroValue218
 t50:=Tryz.underlying222
 a50:=Tryz.isAgg222
 z50:=Tryz.sizeOf222
 v50:=Tryz.zeroValue222
 t53:=Tryz.underlying225
 a53:=Tryz.isAgg225
 z53:=Tryz.sizeOf225
 v53:=Tryz.zeroValue225
 t55:=Tryz.underlying227
 a55:=Tryz.isAgg227
 z55:=Tryz.sizeOf227
 v55:=Tryz.zeroValue227
 t66:=Tryz.underlying239
 a66:=Tryz.isAgg239
 z66:=Tryz.sizeOf239
 v66:=Tryz.zeroValue239
 t70:=Tryz.underlying209
 a70:=Tryz.isAgg209
 z70:=Tryz.sizeOf209
 v70:=Tryz.zeroValue209
 t76:=Tryz.underlying255
 a76:=Tryz.isAgg255
 z76:=Tryz.sizeOf255
 v76:=Tryz.zeroValue255
 t77:=Tryz.underlying256
 a77:=Tryz.isAgg256
 z77:=Tryz.sizeOf256
 v77:=Tryz.zeroValue256 }
end Go.Proofs
namespace Go.Proofs
open Go.Shelf
def Tryz.sortD_ren : Go.Shelf.Ren:=⟨fun | 6=>196 | 15=>173 | 14=>226 | 28=>219 | 29=>220 | 20=>246 | 21=>247 | 22=>248 | 23=>249 | 24=>250 | 25=>251 | 26=>252 | 27=>253 | 46=>264 | 47=>240 | 48=>241 | 49=>265 | 50=>266 | 57=>271 | n=>n,fun | 22=>46 | 24=>166 | 25=>207 | 3=>3 | 39=>192 | 0=>0 | 53=>225 | 55=>227 | 4=>4 | 46=>218 | 45=>217 | 50=>222 | 5=>5 | 9=>9 | 66=>239 | 70=>209 | 76=>255 | 77=>256 | n=>n,fun | n=>n⟩
theorem Tryz.sortD : Go.Proofs.SlLaysF0.n6 Tryz.prog Tryz.sortD_ren:={
 mixed:=by kernel_rfl
 f6:=⟨Tryz.f196.name,by decide,Tryz.func196.trans (congrArg some (by kernel_rfl))⟩
 f14:=⟨Tryz.f226.name,by decide,Tryz.func226.trans (congrArg some (by kernel_rfl))⟩
 f15:=Tryz.func173.trans (congrArg some (by kernel_rfl))
 f20:=⟨Tryz.f246.name,by decide,Tryz.func246.trans (congrArg some (by kernel_rfl))⟩
 f21:=⟨Tryz.f247.name,by decide,Tryz.func247.trans (congrArg some (by kernel_rfl))⟩
 f22:=⟨Tryz.f248.name,by decide,Tryz.func248.trans (congrArg some (by kernel_rfl))⟩
 f23:=⟨Tryz.f249.name,by decide,Tryz.func249.trans (congrArg some (by kernel_rfl))⟩
 f24:=⟨Tryz.f250.name,by decide,Tryz.func250.trans (congrArg some (by kernel_rfl))⟩
 f25:=⟨Tryz.f251.name,by decide,Tryz.func251.trans (congrArg some (by kernel_rfl))⟩
 f26:=⟨Tryz.f252.name,by decide,Tryz.func252.trans (congrArg some (by kernel_rfl))⟩
 f27:=⟨Tryz.f253.name,by decide,Tryz.func253.trans (congrArg some (by kernel_rfl))⟩
 f28:=Tryz.func219.trans (congrArg some (by kernel_rfl))
 f29:=Tryz.func220.trans (congrArg some (by kernel_rfl))
 f46:=⟨Tryz.f264.name,by decide,Tryz.func264.trans (congrArg some (by kernel_rfl))⟩
 f47:=Tryz.func240.trans (congrArg some (by kernel_rfl))
 f48:=Tryz.func241.trans (congrArg some (by kernel_rfl))
 f49:=⟨Tryz.f265.name,by decide,Tryz.func265.trans (congrArg some (by kernel_rfl))⟩
 f50:=⟨Tryz.f266.name,by decide,Tryz.func266.trans (congrArg some (by kernel_rfl))⟩
 f57:=⟨Tryz.f271.name,by decide,Tryz.func271.trans (congrArg some (by kernel_rfl))⟩
 t0:=Tryz.underlying0
 a0:=Tryz.isAgg0
 z0:=Tryz.sizeOf0
 v0:=Tryz.zeroValue0
 t3:=Tryz.underlying3
 a3:=Tryz.isAgg3
 z3:=Tryz.sizeOf3
 v3:=Tryz.zeroValue3
 t4:=Tryz.underlying4
 a4:=Tryz.isAgg4
 z4:=Tryz.sizeOf4
 v4:=Tryz.zeroValue4
 t5:=Tryz.underlying5
 a5:=Tryz.isAgg5
 z5:=Tryz.sizeOf5
 v5:=Tryz.zeroValue5
 t9:=Tryz.underlying9
 a9:=Tryz.isAgg9
 z9:=Tryz.sizeOf9
 v9:=Tryz.zeroValue9
 t22:=Tryz.underlying46
 a22:=Tryz.isAgg46
 z22:=Tryz.sizeOf46
 v22:=Tryz.zeroValue46
 t25:=Tryz.underlying207
 a25:=Tryz.isAgg207
 z25:=Tryz.sizeOf207
 v25:=Tryz.zeroValue207
 t39:=Tryz.underlying192
 a39:=Tryz.isAgg192
 z39:=Tryz.sizeOf192
 v39:=Tryz.zeroValue192
 t45:=Tryz.underlying217
 a45:=Tryz.isAgg217
 z45:=Tryz.sizeOf217
 v45:=Tryz.zeroValue217
 t46:=Tryz.underlying218
 a46:=Tryz.isAgg218
 z46:=Tryz.sizeOf218
 v46:=Tryz.zeroValue218
 t50:=Tryz.underlying222
 a50:=Tryz.isAgg222
 z50:=Tryz.sizeOf222
 v50:=Tryz.zeroValue222
 t53:=Tryz.underlying225
 a53:=Tryz.isAgg225
 z53:=Tryz.sizeOf225
 v53:=Tryz.zeroValue225
 t55:=Tryz.underlying227
 a55:=Tryz.isAgg227
 z55:=Tryz.sizeOf227
 v55:=Tryz.zeroValue227
 t66:=Tryz.underlying239
 a66:=Tryz.isAgg239
 z66:=Tryz.sizeOf239
 v66:=Tryz.zeroValue239
 t70:=Tryz.underlying209
 a70:=Tryz.isAgg209
 z70:=Tryz.sizeOf209
 v70:=Tryz.zeroValue209
 t76:=Tryz.underlying255
 a76:=Tryz.isAgg255
 z76:=Tryz.sizeOf255
 v76:=Tryz.zeroValue255
 t77:=Tryz.underlying256
 a77:=Tryz.isAgg256
 z77:=Tryz.sizeOf256
 v77:=Tryz.zeroValue256 }
end Go.Proofs
namespace Go.Proofs.YtlhkojcmcmkmaaaGreat
open Go.RowKit Go.Sort Go.Shelf
def cmpE (x y : Elem) : Int:=cmpS x.code y.code
instance : Inhabited Elem:=⟨⟨⟨#[]⟩,0⟩⟩
def cmpD (x y : DedT) : Int:=orI (cmpI x.rank y.rank) (cmpS x.code y.code)
instance : Inhabited DedT:=⟨⟨⟨#[]⟩,0,false,0,0,0⟩⟩
theorem ltE (x y : Elem) : ltOf cmpE x y = lessE x y:=by
 unfold ltOf cmpE cmpS lessE
 split
 ·
  rename_i h; simp [h]
 ·
  rename_i h
  have h':Op.bytesLess x.code.toList y.code.toList = false:=by simpa using h
  split <;> simp [h']
theorem swoE : SWO (ltOf cmpE) where
 irrefl x:=by rw [ltE,lessE,less_eq]; simp
 trans x y z h1 h2:=by
  rw [ltE,lessE,less_eq] at *
  simp only [decide_eq_true_eq] at *
  exact List.lt_trans h1 h2
 ntrans x y z h1 h2:=by
  rw [ltE,lessE,less_eq] at *
  simp only [decide_eq_false_iff_not,List.not_lt] at *
  exact List.le_trans h2 h1
set_option maxHeartbeats 1000000 in
theorem byCode_any (x y : Elem) (W:World) : Calls Tryz.prog 171 #[.agg #[.string x.code,.int .i64 x.amount],.agg #[.string y.code,.int .i64 y.amount]] W fun e w'=>e = .returned (.int .i64 (cmpE x y))∧∃ q os',w' = grow (W.drewN q) os':=by
 go_enter Tryz.func171,Tryz.ntmps171
 go_wp2_with (go_at_call 85; refine (compare_any _ _ _).mono ?_; rintro e w' ⟨rfl,rfl⟩)
 go_ret
 exact ⟨rfl,0,_,by rw [alloc_eq_grow,alloc_eq_grow,grow_grow]; rfl⟩
theorem only_sortE_any (w:World) (blk off n : Nat) (d:Array Elem) (os:Array Obj) : w.grownBy (sortWorldK encE 2 w blk off n d os) (some blk):=by
 refine ⟨rfl,rfl,rfl,size_sortWorldK_c encE 2 w blk off n d os,fun i hi hne=>?_⟩
 have hne':blk ≠ i:=fun e=>hne (by rw [e])
 have hsz:(putRowK encE 2 (Sort.ahead w n) blk off d).heap.size = w.heap.size:=by simp [putRowK,putRow,mapBlock,Sort.ahead]
 show ((putRowK encE 2 (Sort.ahead w n) blk off d).heap++os)[i]? = w.heap[i]?
 rw [Array.getElem?_append_left (by omega)]
 show (w.heap.modify blk _)[i]? = _
 rw [Array.getElem?_modify,if_neg hne']
set_option maxHeartbeats 1000000 in
theorem sortE_any (A:Option Addr) (cap base : Nat) (xs:List Elem) (w:World) (hown:Own encE 2 69 w base (.slice A xs.length cap) xs) (hl:xs.length < 4611686018427387904) :
  Calls Tryz.prog 170 #[.slice A xs.length cap,.func (.func 171) #[] #[]] w fun e w'=>e = .returned (.tuple #[]) ∧
   ∃ ys:List Elem,ys.Perm xs∧ys.Pairwise (fun a b=>lessE b a = false)∧SliceOf encE 2 w' w'.heap.size A ys∧Below base w w':=by
 rcases hown.2 with ⟨hv,h0⟩ | ⟨g,cap',cur,hv,hb,hg,hn,hm,hs,ht⟩
 ·
  injection hv with h1 h2 h3
  obtain rfl:xs = []:=List.eq_nil_of_length_eq_zero h0
  have hcon:=AnyF.slices_SortFunc_none { Tryz.sortE with } A cap (.func (.func 171) #[] #[]) w
  refine Calls.mono hcon fun e w' ⟨he,hw⟩=>⟨he,[],List.Perm.refl _,List.Pairwise.nil,SliceOf.nil_,by rw [hw]; exact Below.refl _ _⟩
 ·
  injection hv with h1 h2 h3
  subst h1 h3
  have hgl:=(Array.getElem?_eq_some_iff.1 hg).1
  have eg:∀ args w,(callFunc 171 args).run Tryz.prog w = .ok (.enter 171 args) w:=enters_of Tryz.func171 (by kernel_rfl) rfl
  have hcmp:CmpLays Tryz.prog 171 #[] encE 2 cmpE g 0 xs.toArray.size w:=fun _ _ _ _ x y=>byCode_any x y _
  have hH:HoldsK encE 2 w g 0 xs.toArray:=by
   intro j hj
   rw [size_flatK] at hj
   simp only [List.size_toArray] at hj
   have hdiv:j / 2 < xs.length:=by omega
   have hmod:j % 2 < 2:=Nat.mod_lt _ (by omega)
   refine ⟨?_,by simp [World.frozen?,hg]⟩
   rw [get_flatK _ _ _ _ (by simpa using hj),Nat.zero_add,cell_of_row w g j cur _ (0,0) hg]
   have hx:xs.toArray[j / 2]! = xs[j / 2]:=by simp [hdiv]
   rw [hx]
   have hu:(encE xs[j / 2])[j % 2]? = some ((encE xs[j / 2])[j % 2]!):=by
    have hlt:j % 2 < (encE xs[j / 2]).length:=by rw [encE_len]; exact hmod
    rw [List.getElem?_eq_getElem hlt,getElem!_pos (encE xs[j / 2]) (j % 2) hlt]
   have h1:=flatMap_at encE_len xs (j / 2) (j % 2) _ _ (List.getElem?_eq_getElem hdiv) hu
   rw [show j / 2 * 2+j % 2 = j by omega] at h1
   rw [← ht,List.getElem?_take,if_pos (by omega)] at h1
   simpa using h1
  have hcon:=AnyQ.slices_SortFunc Tryz.sortE 2 Tryz.isAgg69 Tryz.sizeOf69 encE encE_len encE_one cmpE swoE 171 #[] g 0 cap xs.toArray w eg hcmp hH hgl (by simpa using hl)
  have hcon':Calls Tryz.prog 170 #[.slice (some ⟨g,0,none⟩) xs.length cap,.func (.func 171) #[] #[]] w _:=hcon
  refine hcon'.mono ?_
  rintro e w' ⟨he,d',n,os,hp,hsd,rfl⟩
  obtain ⟨hp1,hp2,hp3⟩:=hp
  refine ⟨he,d'.toList,?_,?_,?_,only_below (only_sortE_any _ _ _ _ _ _) (by omega) (fun q e=>by injection e; omega)⟩
  ·
   have e1:xs.toArray.size = xs.length:=by simp
   rw [e1] at hp1 hp3
   have e2:(d'.extract 0 xs.length) = d':=by rw [← hp1]; simp
   have e3:(xs.toArray.extract 0 xs.length) = xs.toArray:=by simp
   rw [e2,e3] at hp3
   exact hp3
  ·
   rw [List.pairwise_iff_getElem]
   intro i j hi hj hij
   have h1:=hsd i j (Nat.zero_le _) hij (by rw [← hp1]; simpa using hj)
   rw [ltE,getElem!_pos d' i (by simpa using hi),getElem!_pos d' j (by simpa using hj)] at h1
   simpa using h1
  ·
   intro _
   refine ⟨g,0,rfl,lt_sortWorldK encE 2 w g 0 n d' os hgl,fun i x hi j u hu=>?_⟩
   have hH':=holdsK_sortWorldK_c encE 2 w g 0 xs.toArray d' n os hH hgl hp1
   have hil:i < d'.size:=by simpa using (List.getElem?_eq_some_iff.1 hi).1
   have hjl:j < 2:=by have:=(List.getElem?_eq_some_iff.1 hu).1; rwa [encE_len] at this
   have h1:=(hH' (i * 2+j) (by rw [size_flatK]; omega)).1
   rw [get_flatK _ _ _ _ (by omega),show (i * 2+j) / 2 = i by omega,show (i * 2+j) % 2 = j by omega,getElem!_pos d' i hil] at h1
   have hx:d'[i] = x:=by
    have:=(List.getElem?_eq_some_iff.1 hi).2
    simpa using this
   rw [hx] at h1
   have hu2:(encE x)[j]! = u:=by
    have hlt:=(List.getElem?_eq_some_iff.1 hu).1
    rw [getElem!_pos (encE x) j hlt]
    exact (List.getElem?_eq_some_iff.1 hu).2
   rw [hu2] at h1
   rw [Nat.zero_add]
   rw [Nat.zero_add] at h1
   exact h1
instance (x y : DedT) : Decidable (LtD x y):=by unfold LtD; infer_instance
def lessD (x y : DedT) : Bool:=decide (LtD x y)
theorem cmpS_neg (a b : ByteArray) : decide (cmpS a b < 0) = decide (a.data.toList < b.data.toList):=by
 unfold cmpS
 rw [less_eq,ByteArray.toList_eq,ByteArray.toList_eq]
 split
 ·
  rename_i h
  have h':a.data.toList < b.data.toList:=of_decide_eq_true h
  simp only [h',decide_true]; decide
 ·
  rename_i h
  have h':¬ a.data.toList < b.data.toList:=fun hh=>h (decide_eq_true hh)
  simp only [h',decide_false]
  split <;> decide
theorem ltD (x y : DedT) : ltOf cmpD x y = lessD x y:=by
 have hS:=cmpS_neg x.code y.code
 unfold ltOf cmpD orI cmpI lessD LtD
 rcases Int.lt_trichotomy x.rank y.rank with h | h | h
 ·
  simp [h]
 ·
  simp only [h,Int.lt_irrefl,if_false,ne_eq,not_true,false_or,true_and]
  exact hS
 ·
  have h1:¬ x.rank < y.rank:=by omega
  have h2:¬ x.rank = y.rank:=by omega
  simp [h,h1,h2]
theorem swoD : SWO (ltOf cmpD) where
 irrefl x:=by rw [ltD,lessD]; exact decide_eq_false (LtD.irr x)
 trans x y z h1 h2:=by
  rw [ltD,lessD] at *
  exact decide_eq_true (LtD.tr x y z (of_decide_eq_true h1) (of_decide_eq_true h2))
 ntrans x y z h1 h2:=by
  rw [ltD,lessD] at *
  have g1:=of_decide_eq_false h1
  have g2:=of_decide_eq_false h2
  apply decide_eq_false
  rintro (h | ⟨h,hc⟩)
  ·
   rcases Int.lt_trichotomy x.rank y.rank with e | e | e
   ·
    exact g1 (.inl e)
   ·
    exact g2 (.inl (by omega))
   ·
    exact g2 (.inl (by omega))
  ·
   rcases Int.lt_trichotomy x.rank y.rank with e | e | e
   ·
    exact g1 (.inl e)
   ·
    have k1:y.code.data.toList≤x.code.data.toList:=List.not_lt.1 (fun hh=>g1 (.inr ⟨e,hh⟩))
    have k2:z.code.data.toList≤y.code.data.toList:=List.not_lt.1 (fun hh=>g2 (.inr ⟨by omega,hh⟩))
    exact absurd hc (List.not_lt.2 (List.le_trans k2 k1))
   ·
    exact g2 (.inl (by omega))
set_option maxRecDepth 100000 in
set_option maxHeartbeats 1000000 in
theorem orderD_any (x y : DedT) (W:World) : Calls Tryz.prog 197 #[.agg #[.string x.code,.int .i64 x.rank,.bool x.before,.int .i64 x.amount,.int .i64 x.rate,.int .i64 x.cap],.agg #[.string y.code,.int .i64 y.rank,.bool y.before,.int .i64 y.amount,.int .i64 y.rate,.int .i64 y.cap]] W fun e w'=>e = .returned (.int .i64 (cmpD x y))∧∃ q os',w' = grow (W.drewN q) os':=by
 go_enter Tryz.func197,Tryz.ntmps197
 go_wp2
 refine wp_region_still_tail 10 (by kernel_rfl) (by kernel_rfl) ?_
 simp only [List.take_succ_cons,List.take_zero,List.drop_succ_cons,List.drop_zero]
 change wpStill _ _ (World.drew _) (fun a'=>wpList _ _ _ _ a' (World.drew _)) _ _
 iterate 4 still_step
 still_call ((compareI_any _ _ _).mono fun e w' ⟨h1,h2⟩=>⟨h1,h2.symm⟩)
 iterate 4 still_step
 still_call ((compare_any _ _ _).mono fun e w' ⟨h1,h2⟩=>⟨h1,h2.symm⟩)
 refine wpStill_nil ?_
 go_wp2_with fail
 refine (or_any (cmpI x.rank y.rank) (cmpS x.code y.code) _ _ _ _ (by go_simp) (by go_simp)).mono ?_
 rintro e w1 ⟨rfl,rfl⟩
 go_wp2
 go_ret
 exact ⟨rfl,1,_,by rw [alloc_eq_grow,alloc_eq_grow,alloc_eq_grow,grow_grow,grow_grow]; rfl⟩
theorem only_sortD_any (w:World) (blk off n : Nat) (d:Array DedT) (os:Array Obj) : w.grownBy (sortWorldK encD 6 w blk off n d os) (some blk):=by
 refine ⟨rfl,rfl,rfl,size_sortWorldK_c encD 6 w blk off n d os,fun i hi hne=>?_⟩
 have hne':blk ≠ i:=fun e=>hne (by rw [e])
 have hsz:(putRowK encD 6 (Sort.ahead w n) blk off d).heap.size = w.heap.size:=by simp [putRowK,putRow,mapBlock,Sort.ahead]
 show ((putRowK encD 6 (Sort.ahead w n) blk off d).heap++os)[i]? = w.heap[i]?
 rw [Array.getElem?_append_left (by omega)]
 show (w.heap.modify blk _)[i]? = _
 rw [Array.getElem?_modify,if_neg hne']
set_option maxHeartbeats 1000000 in
theorem sortD_any (A:Option Addr) (cap base : Nat) (xs:List DedT) (w:World) (hown:Own encD 6 166 w base (.slice A xs.length cap) xs) (hl:xs.length < 4611686018427387904) :
  Calls Tryz.prog 196 #[.slice A xs.length cap,.func (.func 197) #[] #[]] w fun e w'=>e = .returned (.tuple #[]) ∧
   ∃ ys:List DedT,ys.Perm xs∧ys.Pairwise (fun a b=>lessD b a = false)∧SliceOf encD 6 w' w'.heap.size A ys∧Below base w w':=by
 rcases hown.2 with ⟨hv,h0⟩ | ⟨g,cap',cur,hv,hb,hg,hn,hm,hs,ht⟩
 ·
  injection hv with h1 h2 h3
  obtain rfl:xs = []:=List.eq_nil_of_length_eq_zero h0
  have hcon:=AnyF.slices_SortFunc_none { Tryz.sortD with } A cap (.func (.func 197) #[] #[]) w
  refine Calls.mono hcon fun e w' ⟨he,hw⟩=>⟨he,[],List.Perm.refl _,List.Pairwise.nil,SliceOf.nil_,by rw [hw]; exact Below.refl _ _⟩
 ·
  injection hv with h1 h2 h3
  subst h1 h3
  have hgl:=(Array.getElem?_eq_some_iff.1 hg).1
  have eg:∀ args w,(callFunc 197 args).run Tryz.prog w = .ok (.enter 197 args) w:=enters_of Tryz.func197 (by kernel_rfl) rfl
  have hcmp:CmpLays Tryz.prog 197 #[] encD 6 cmpD g 0 xs.toArray.size w:=fun _ _ _ _ x y=>orderD_any x y _
  have hH:HoldsK encD 6 w g 0 xs.toArray:=by
   intro j hj
   rw [size_flatK] at hj
   simp only [List.size_toArray] at hj
   have hdiv:j / 6 < xs.length:=by omega
   have hmod:j % 6 < 6:=Nat.mod_lt _ (by omega)
   refine ⟨?_,by simp [World.frozen?,hg]⟩
   rw [get_flatK _ _ _ _ (by simpa using hj),Nat.zero_add,cell_of_row w g j cur _ (0,0) hg]
   have hx:xs.toArray[j / 6]! = xs[j / 6]:=by simp [hdiv]
   rw [hx]
   have hu:(encD xs[j / 6])[j % 6]? = some ((encD xs[j / 6])[j % 6]!):=by
    have hlt:j % 6 < (encD xs[j / 6]).length:=by rw [encD_len]; exact hmod
    rw [List.getElem?_eq_getElem hlt,getElem!_pos (encD xs[j / 6]) (j % 6) hlt]
   have h1:=flatMap_at encD_len xs (j / 6) (j % 6) _ _ (List.getElem?_eq_getElem hdiv) hu
   rw [show j / 6 * 6+j % 6 = j by omega] at h1
   rw [← ht,List.getElem?_take,if_pos (by omega)] at h1
   simpa using h1
  have hcon:=AnyQ.slices_SortFunc Tryz.sortD 6 Tryz.isAgg166 Tryz.sizeOf166 encD encD_len encD_one cmpD swoD 197 #[] g 0 cap xs.toArray w eg hcmp hH hgl (by simpa using hl)
  have hcon':Calls Tryz.prog 196 #[.slice (some ⟨g,0,none⟩) xs.length cap,.func (.func 197) #[] #[]] w _:=hcon
  refine hcon'.mono ?_
  rintro e w' ⟨he,d',n,os,hp,hsd,rfl⟩
  obtain ⟨hp1,hp2,hp3⟩:=hp
  refine ⟨he,d'.toList,?_,?_,?_,only_below (only_sortD_any _ _ _ _ _ _) (by omega) (fun q e=>by injection e; omega)⟩
  ·
   have e1:xs.toArray.size = xs.length:=by simp
   rw [e1] at hp1 hp3
   have e2:(d'.extract 0 xs.length) = d':=by rw [← hp1]; simp
   have e3:(xs.toArray.extract 0 xs.length) = xs.toArray:=by simp
   rw [e2,e3] at hp3
   exact hp3
  ·
   rw [List.pairwise_iff_getElem]
   intro i j hi hj hij
   have h1:=hsd i j (Nat.zero_le _) hij (by rw [← hp1]; simpa using hj)
   rw [ltD,getElem!_pos d' i (by simpa using hi),getElem!_pos d' j (by simpa using hj)] at h1
   simpa using h1
  ·
   intro _
   refine ⟨g,0,rfl,lt_sortWorldK encD 6 w g 0 n d' os hgl,fun i x hi j u hu=>?_⟩
   have hH':=holdsK_sortWorldK_c encD 6 w g 0 xs.toArray d' n os hH hgl hp1
   have hil:i < d'.size:=by simpa using (List.getElem?_eq_some_iff.1 hi).1
   have hjl:j < 6:=by have:=(List.getElem?_eq_some_iff.1 hu).1; rwa [encD_len] at this
   have h1:=(hH' (i * 6+j) (by rw [size_flatK]; omega)).1
   rw [get_flatK _ _ _ _ (by omega),show (i * 6+j) / 6 = i by omega,show (i * 6+j) % 6 = j by omega,getElem!_pos d' i hil] at h1
   have hx:d'[i] = x:=by
    have:=(List.getElem?_eq_some_iff.1 hi).2
    simpa using this
   rw [hx] at h1
   have hu2:(encD x)[j]! = u:=by
    have hlt:=(List.getElem?_eq_some_iff.1 hu).1
    rw [getElem!_pos (encD x) j hlt]
    exact (List.getElem?_eq_some_iff.1 hu).2
   rw [hu2] at h1
   rw [Nat.zero_add]
   rw [Nat.zero_add] at h1
   exact h1
end Go.Proofs.YtlhkojcmcmkmaaaGreat
namespace Go.Proofs.YtlhkojcmcmkmaaaGreat
open Go.RowKit Go.Sort Go.Shelf
theorem wanted_ok (d:DedT) (base taken : Int) (w:World) (hz:d.code.size≤maxLen) (hok:DedOk d) (h1:0≤base) (h2:base≤1000000000) (h3:0≤taken) (h4:taken≤1000000000000) :
  Calls Tryz.prog 198 #[.agg #[.string d.code,.int .i64 d.rank,.bool d.before,.int .i64 d.amount,.int .i64 d.rate,.int .i64 d.cap],.int .i64 base,.int .i64 taken] w fun e w'=>e = .returned (.tuple #[.int .i64 (wantN d base taken),.int .i64 0])∧Below w.heap.size w w':=by
 have hE:=wantE_0 (validD_one.2 hok) (inB_iff.2 ⟨h1,h2⟩) (inB_iff.2 ⟨h3,h4⟩)
 refine (wanted_any d base taken w hz ⟨by omega,by omega⟩).mono fun e w' ⟨he,hb⟩=>⟨?_,hb⟩
 rw [he,hE,wantR,if_pos hE]
set_option maxRecDepth 100000 in
set_option maxHeartbeats 4000000 in
theorem take_anyF (A Y : Option Addr) (cap ycap : Nat) (xs:List DedT) (year:List Elem) (before:Bool) (base avail : Int) (w:World) (h:SliceOf encD 6 w w.heap.size A xs) (hz : ∀ x ∈ xs,x.code.size≤maxLen) (hl:xs.length≤9223372036854775807)
  (hy:SliceOf encE 2 w w.heap.size Y year) (hyz:∀ x ∈ year,x.code.size≤maxLen) (hyl:year.length≤9223372036854775807) :
  Calls Tryz.prog 160 #[.slice A xs.length cap,.bool before,.int .i64 base,.int .i64 avail,.slice Y year.length ycap] w (EPostF (takeR xs before base avail year) (takeE xs base avail year) w):=by
 have HZ:=Lib.hid hz; clear hz
 have HYZ:=Lib.hid hyz; clear hyz
 have fail_:∀ (n:Int) (W:World),n ≠ 0→takeE xs base avail year = n→Below w.heap.size w W→EPostF (takeR xs before base avail year) (takeE xs base avail year) w (Ending.returned (.tuple #[.slice none 0 0,.int .i64 n])) W :=
  fun n W hn he hb=>EPostF.fail (takeR_no (by rw [he]; exact hn)) he hb
 have FAIL:=Lib.hid fail_
 clear fail_
 go_enter Tryz.func160,Tryz.ntmps160
 go_wp2_with fail
 refine (validD_any A cap xs _ h HZ.out hl).mono ?_
 rintro e w1 ⟨rfl,hb1⟩
 by_cases hv:validD xs = true
 rotate_left
 ·
  have hv':validD xs = false:=by simpa using hv
  clear hv
  go_wp2
  go_ret2
  exact FAIL.out 1 _ (by omega) (takeE_1 (.inl hv')) hb1
 go_wp2_with fail
 refine (rec_any Y ycap year _ (hy.adv hb1) HYZ.out hyl).mono ?_
 rintro e w2 ⟨rfl,hb2⟩
 have hbel2:=bel_adv hb1 hb2
 by_cases hr:recB year = true
 rotate_left
 ·
  have hr':recB year = false:=by simpa using hr
  clear hr
  go_wp2
  go_ret2
  exact FAIL.out 1 _ (by omega) (takeE_1 (.inr hr')) hbel2
 by_cases a1:0≤base
 rotate_left
 ·
  go_wp2
  go_ret2
  exact FAIL.out 2 _ (by omega) (takeE_2 hv hr (.inl (inB_no.2 (.inl (by omega))))) hbel2
 by_cases a2:base≤1000000000
 rotate_left
 ·
  go_wp2
  go_ret2
  exact FAIL.out 2 _ (by omega) (takeE_2 hv hr (.inl (inB_no.2 (.inr (by omega))))) hbel2
 by_cases a3:0≤avail
 rotate_left
 ·
  go_wp2
  go_ret2
  exact FAIL.out 2 _ (by omega) (takeE_2 hv hr (.inr (inB_no.2 (.inl (by omega))))) hbel2
 by_cases a4:avail≤1000000000
 rotate_left
 ·
  go_wp2
  go_ret2
  exact FAIL.out 2 _ (by omega) (takeE_2 hv hr (.inr (inB_no.2 (.inr (by omega))))) hbel2
 have hE:=takeE_0 hv hr (inB_iff.2 ⟨a1,a2⟩) (inB_iff.2 ⟨a3,a4⟩)
 have HE:=Lib.hid hE
 have HR:=Lib.hid (takeR_ok (before:=before) hE)
 clear hE FAIL
 have hlen:xs.length≤16:=(validD_iff.1 hv).1
 have hy128:year.length≤128:=(recB_iff.1 hr).1
 go_wp2_with fail
 refine (clone_any A cap xs _ (h.adv hbel2) (by omega)).mono ?_
 rintro e w3 ⟨v3,rfl,hown3,hb3⟩
 have hbel3:=bel_adv hbel2 hb3
 obtain ⟨A3,c3,rfl,hS3,hB3,hlc3,hcm3⟩:=hown3.form2 encD_len
 go_wp2_with fail
 refine (sortD_any A3 c3 w2.heap.size xs _ hown3 (by omega)).mono ?_
 rintro e w4 ⟨rfl,ys,hp,hsd,hS4,hb4⟩
 have hbel4:Below w.heap.size w w4:=hbel3.trans (hb4.mono hbel2.size)
 have hys:=ordD_eq hv hp (hsd.imp (fun h=>of_decide_eq_false h))
 have hyl2:=hp.length_eq
 have hok:∀ x ∈ ys,DedOk x:=fun x hx=>(validD_iff.1 hv).2.1 x (hp.mem_iff.1 hx)
 have hyz2:∀ x ∈ ys,x.code.size≤maxLen:=fun x hx=>HZ.out x (hp.mem_iff.1 hx)
 have hcode:ys.Pairwise (fun a b=>a.code ≠ b.code):=by rw [hys]; exact ordD_code hv
 rw [← hys] at HR
 have HOK:=Lib.hid hok
 have HYZ2:=Lib.hid hyz2
 have HCODE:=Lib.hid hcode
 have HLEN:=Lib.hid hyl2
 have hle:ys.length≤16:=by omega
 have hY4:=hy.adv hbel4
 have hyb:=fun c=>year_at hr c
 have HYB:=Lib.hid hyb
 clear hok hyz2 hcode hys hp hsd hS3 hB3 hown3 hb3 hb4 hb1 hb2 hyb hyl2
 have hD4:SliceOf encD 6 w4 w4.heap.size A3 ys:=hS4
 clear hS4
 obtain ⟨n,hn⟩ : ∃ n,n = xs.length:=⟨_,rfl⟩
 have hn1:n≤ys.length:=by have:=HLEN.out; omega
 have hn2:ys.length≤n:=by have:=HLEN.out; omega
 rw [← hn]
 clear HLEN HZ h hv hr hlen hlc3 hl
 generalize xs.length = n0 at hn
 clear hn
 go_wp2_with fail
 go_loopw [13,14,49] (fun v l i wr=>∃ k:Nat,k≤ys.length∧i = .int .i64 k∧l = .int .i64 (rst before base year (ys.take k) avail)∧Own encE 2 69 wr w4.heap.size v (tk before base year (ys.take k) avail)∧Below w4.heap.size w4 wr) (fun _ _ i _=>ys.length - (intOf i).toNat)
 case atStart=>exact ⟨0,by omega,rfl,rfl,Own.nil_ _ _,Below.refl _ _⟩
 case round =>
  obtain ⟨k,hk,rfl,rfl,hown,hbel⟩:=hrel
  have hbs:=hbel.size
  have hr0:=rst_bd (before:=before) (year:=year) (P:=ys.take k) (fun x hx=>HOK.out x (List.mem_of_mem_take hx)) a1 a2 avail a3
  by_cases hlt:k < ys.length
  ·
   have hltn:k < n:=by omega
   obtain ⟨b,off,rfl,hb,hc⟩:=(hD4.adv hbel).at_ hlt
   have c0:=hc 0 _ rfl
   have c1:=hc 1 _ rfl
   have c2:=hc 2 _ rfl
   have c3:=hc 3 _ rfl
   have c4:=hc 4 _ rfl
   have c5:=hc 5 _ rfl
   simp only [Nat.add_zero] at c0
   clear hc
   have HT:Hid (ys.take (k+1) = ys.take k++[ys[k]]):=List.take_succ_eq_append_getElem hlt
   have hokk:=HOK.out _ (List.getElem_mem hlt)
   have hzk:=HYZ2.out _ (List.getElem_mem hlt)
   generalize hl0:rst before base year (ys.take k) avail = l0 at hr0
   have HL0:=Lib.hid hl0
   clear hl0
   obtain ⟨r1,r2⟩:=hr0
   have hlen6:(tk before base year (ys.take k) avail).length≤16:=Nat.le_trans (tk_length _ _) (by simp; omega)
   by_cases hbe:ys[k].before = before
   rotate_left
   ·
    have hbe':(ys[k].before == before) = false:=by simpa using hbe
    have HST:=Lib.hid (step_no (P:=ys.take k) HL0.out (amtT_other (base:=base) (year:=year) (l0:=l0) hbe))
    clear hbe
    go_wp2
    go_roundw
    case rel=>exact ⟨k+1,by omega,by go_num,by rw [HT.out,HST.out.2],by rw [HT.out,HST.out.1]; exact hown.alloc _,hbel.alloc hbs _⟩
    case measure=>simp [intOf]; omega
   ·
    have hbe':(ys[k].before == before) = true:=by simpa using hbe
    have HBE:=Lib.hid hbe
    clear hbe
    obtain ⟨t1,t2⟩:=HYB.out ys[k].code
    obtain ⟨q1,q2⟩:=wantN_bd (taken:=atE year ys[k].code) hokk a1 a2
    go_wp2_with fail
    have hWB:=Blk.new wr 166 #[.string ys[k].code,.int .i64 ys[k].rank,.bool ys[k].before,.int .i64 ys[k].amount,.int .i64 ys[k].rate,.int .i64 ys[k].cap]
    have hWo:=hown.alloc (.cells #[.string ys[k].code,.int .i64 ys[k].rank,.bool ys[k].before,.int .i64 ys[k].amount,.int .i64 ys[k].rate,.int .i64 ys[k].cap] 166)
    have hWb:=bel_alloc hbel (.cells #[.string ys[k].code,.int .i64 ys[k].rank,.bool ys[k].before,.int .i64 ys[k].amount,.int .i64 ys[k].rate,.int .i64 ys[k].cap] 166)
    have hWl:(wr.alloc (Obj.cells #[.string ys[k].code,.int .i64 ys[k].rank,.bool ys[k].before,.int .i64 ys[k].amount,.int .i64 ys[k].rate,.int .i64 ys[k].cap] 166)).heap.size = wr.heap.size+1:=by simp
    generalize wr.alloc (Obj.cells _ _) = W at hWl hWb hWB hWo ⊢
    have hYW:=hY4.adv hWb
    have hWlt:wr.heap.size < W.heap.size:=by omega
    clear hWl c0 c1 c2 c3 c4 c5
    have e0:=Bw.cell (w:=W) (a:=⟨wr.heap.size,0,none⟩) (by exact hWlt) (hWB.cell 0)
    have e1:=Bw.cell (w:=W) (a:=⟨wr.heap.size,1,none⟩) (by exact hWlt) (hWB.cell 1)
    have e2:=Bw.cell (w:=W) (a:=⟨wr.heap.size,2,none⟩) (by exact hWlt) (hWB.cell 2)
    have e3:=Bw.cell (w:=W) (a:=⟨wr.heap.size,3,none⟩) (by exact hWlt) (hWB.cell 3)
    have e4:=Bw.cell (w:=W) (a:=⟨wr.heap.size,4,none⟩) (by exact hWlt) (hWB.cell 4)
    have e5:=Bw.cell (w:=W) (a:=⟨wr.heap.size,5,none⟩) (by exact hWlt) (hWB.cell 5)
    refine wp_region_below (by kernel_rfl) (by kernel_rfl) ?_
    repeat (first | go_big_quiet_step ((first | exact Bw.call _ (amountOf_any Y ycap year _ _ (hYW.adv (Bw.h _)) (by omega)) | exact Bw.call _ (wanted_ok ys[k] base (atE year ys[k].code) _ hzk hokk a1 a2 t1 t2))) | quiet_step ((first | exact Bw.call _ (amountOf_any Y ycap year _ _ (hYW.adv (Bw.h _)) (by omega)) | exact Bw.call _ (wanted_ok ys[k] base (atE year ys[k].code) _ hzk hokk a1 a2 t1 t2))))
    refine wpQuiet_nil ?_
    intro W2 hw'
    obtain ⟨⟨W9,hW2⟩,hw''⟩:=hw'
    subst hw''
    have hB2:=hWB.adv hW2
    have hown2:=hWo.adv hW2
    have hbel2':=bel_adv hWb hW2
    have hl2:=hB2.lt
    have z0:=hB2.cell 0
    simp only [List.getElem?_toArray,List.getElem?_cons_zero] at z0
    clear hWB hWo hWb hW2 e0 e1 e2 e3 e4 e5 hYW hown hbel
    generalize hwn:wantN ys[k] base (atE year ys[k].code) = wn at q1 q2 ⊢
    have HWN:=Lib.hid hwn
    clear hwn
    have hbs2:=hbel2'.size
    have hr7:=fun g hg=>(hown2.block_lt (g:=g) hg).1
    have HA:Hid (amtT before base year ys[k] l0 = min wn l0):=by rw [Hid,amtT,if_pos HBE.out,HWN.out]
    by_cases hpos:0 < min wn l0
    ·
     have HST:=Lib.hid (step_yes (P:=ys.take k) HL0.out HA.out hpos)
     have hm1:min wn l0≤l0:=by omega
     go_wp2_with (at_builtin; (refine wpList_append_one _ _ 51 ⟨ys[k].code,min wn l0⟩ _ 24 _ infoE Tryz.underlying51 hown2 encE_len (by omega) rfl (encE_one _) (by omega) (by omega) (by omega) (by rfl) (by rfl) (by rfl) (by rfl) (by simp) (by rfl) ?_); intro v8 w8 hown8 hg8)
     go_roundw
     case rel=>exact ⟨k+1,by omega,by go_num,by rw [HT.out,HST.out.2],by rw [HT.out,HST.out.1]; exact hown8,bel_only hbel2' hg8 hr7⟩
     case measure=>simp [intOf]; omega
    ·
     have hA0:amtT before base year ys[k] l0 = 0:=by rw [HA.out]; omega
     have HST:=Lib.hid (step_no (P:=ys.take k) HL0.out hA0)
     clear hA0
     have hm1:min wn l0≤l0:=by omega
     go_wp2
     go_roundw
     case rel=>exact ⟨k+1,by omega,by go_num,by rw [HT.out,HST.out.2]; congr 1; omega,by rw [HT.out,HST.out.1]; exact hown2,hbel2'⟩
     case measure=>simp [intOf]; omega
  ·
   have hek:ys.take k = ys:=List.take_of_length_le (by omega)
   rw [hek] at hown ⊢
   have hltn:¬ k < n:=by omega
   clear hek
   have hl16:(tk before base year ys avail).length≤16:=Nat.le_trans (tk_length _ _) (by omega)
   have htc:=tk_code (before:=before) (base:=base) (year:=year) HCODE.out avail
   generalize tk before base year ys avail = ts at hown HR hl16 htc
   have HTC:=Lib.hid htc
   clear htc
   obtain ⟨A5,c5,rfl,hS5,hB5,hlc5,hcm5⟩:=hown.form2 encE_len
   go_wp2_with fail
   refine (sortE_any A5 c5 w4.heap.size ts _ hown (by omega)).mono ?_
   rintro e w6 ⟨rfl,zs,hp,hsd,hSz,hb6⟩
   have hlz:=hp.length_eq
   have hzs:zs = sumsP ts:=sumsP_eq hp (strict_of hsd (HTC.out.perm hp.symm (fun h e=>h e.symm)))
   have HZS:=Lib.hid hzs
   have HLZ:=Lib.hid hlz
   clear hlz hzs hp hsd
   go_wp2
   go_ret2
   rw [HE.out,HR.out,← HZS.out]
   refine ⟨A5,c5,by rw [HLZ.out]; rfl,hSz,by have:=HLZ.out; omega,hcm5,(fun a ha=>by have:=hB5 a ha; have:=hbel4.size; omega),bel_adv hbel4 (hbel.trans hb6)⟩
end Go.Proofs.YtlhkojcmcmkmaaaGreat
