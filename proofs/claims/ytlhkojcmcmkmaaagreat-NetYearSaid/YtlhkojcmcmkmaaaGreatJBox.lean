/- Joined texts: Box P32d CmpS Cmp MapE. Conditions: as stated. -/
import Derived.WalkKit
import Derived.WalkSpells
import Derived.WalkLawsBesides
import Derived.Deep.QuietTactic
import Derived.BigQuiet
import Derived.Lib.Hide
import Derived.Test.YtlhkojcmcmkmaaaGreatRows
import Derived.Maps.RangeWalk
import Derived.Maps.OwnOps
import Derived.Maps.Ext
import Derived.Sort.KeysCollected
import Derived.Test.YtlhkojcmcmkmaaaGreatJData
import Derived.Test.YtlhkojcmcmkmaaaGreatJElem
import Derived.Test.YtlhkojcmcmkmaaaGreatJMix4
import Derived.Test.YtlhkojcmcmkmaaaGreatJNetM
namespace Go.Proofs.YtlhkojcmcmkmaaaGreat
open Go.RowKit
theorem BwC.cellB {F:World→Prop} {W:World} {a:Addr} {v:Value} (hlt:a.block < W.heap.size) (h:W.cell? a = some v) (p:BwC (fun w'=>Below W.heap.size W w') F) : p.w'.cell? a = some v:=(p.h.cell hlt).trans h
theorem wp_region_box {P:Program} {id:Nat} {Q:Exit→Act→World→Prop} {a aE : Act} {W:World} {L:List Oper} (is:List Nat) (ia ix : Nat) {d:Nat} {t ty : TypeId} {zs:Array Value} (vs:Array Value) {x:Operand} {oa ox : Oper}
  (hm:P.follows .mixedOrders = true) (hs:Region.noSelect L.toArray = true) (hn:2+is.length = L.length)
  (hi:is.all (fun i=>decide (i < L.toArray.size)) = true) (hB:M3.lexSel .any L.toArray is (Array.replicate L.length false) = true) (hd:M3.dstsOk a.tmps.size (M3.opsAt L.toArray is) = true)
  (r1:Region.ready .any L.toArray (M3.listSel is (Array.replicate L.length false)) = [ia]) (r2:Region.ready .any L.toArray ((M3.listSel is (Array.replicate L.length false)).setIfInBounds ia true) = [ix])
  (r3:Region.ready .any L.toArray (((M3.listSel is (Array.replicate L.length false)).setIfInBounds ia true).setIfInBounds ix true) = [])
  (hoa:L.toArray[ia]? = some oa) (hox:L.toArray[ix]? = some ox) (hda:oa.dst = some d) (hga:oa.guard = none) (hdx:ox.dst = none) (hgx:ox.guard = none) (hxo:ox.op = .store ty (.tmp d) x)
  (hra:∀ (b:Act) (w:World),(execOp b.eval oa).run P w = .ok (.value (.pointer (some ⟨w.heap.size,0,none⟩))) (w.alloc (.cells zs t)))
  (hsz:vs.size = zs.size) (hi2:(P.info? ty).map (·.size) = some vs.size) (h1:vs.toList.all (·.oneCell') = true)
  (H:∀ F:World→Prop,Stable F→Inhabited (BwC (fun w'=>Below W.heap.size W w') F)→wpQuiet P L.toArray (fun w'=>∃ p:BwC (fun w'=>Below W.heap.size W w') F,w' = p.w') (fun a'=>a' = aE) (M3.opsAt L.toArray is) a)
  (E:∀ g,(aE.put (some d) (.pointer (some ⟨g,0,none⟩))).eval x = .agg vs∧(aE.put (some d) (.pointer (some ⟨g,0,none⟩))).eval (.tmp d) = .pointer (some ⟨g,0,none⟩))
  (M:∀ g w',W.heap.size≤g→Blk w' g t vs→Below W.heap.size W w'→Q .normal ((aE.put (some d) (.pointer (some ⟨g,0,none⟩))).put none undef) w') : (Code.region id L.toArray true).wp P Q a W:=by
 have hxe:=fun g=>(E g).1
 have hde:=fun g=>(E g).2
 refine M3.wp_region_sel (C:=fun w'=>Below W.heap.size W w') (stable_below _ _ (Nat.le_refl _)) (Below.refl _ _) is 2 hm hs hn hi hB hd H ?_
 intro Q0 hQ0
 refine M3.mix_step [ia] r1 (by simp) ?_
 intro w1 hC1 _ i hi'
 rw [List.mem_singleton] at hi'
 subst hi'
 refine M3.mix_val (.pointer (some ⟨w1.heap.size,0,none⟩)) (w1.alloc (.cells zs t)) hoa (by simp [Region.wanted,hga]) (hra _ _) ⟨bel_alloc hC1 _,?_⟩
 rw [hda]
 refine M3.mix_step [ix] r2 (by simp) ?_
 intro w2 hC2 hb2 i hi'
 rw [List.mem_singleton] at hi'
 subst hi'
 have hB2:=(Blk.new w1 t zs).adv hb2
 have hge:=hC1.size
 have hrun:(execOp (aE.put (some d) (.pointer (some ⟨w1.heap.size,0,none⟩))).eval ox).run P w2 = .ok .skip (w2.setCells w1.heap.size 0 vs.toList):=by
  unfold execOp
  simp only [hxo,hde,hxe,Instr.storeAt,Instr.sureAddr,Sem.run_bind,Sem.run_pure,Result.andThen_ok,run_storeVar_mid w2 w1.heap.size 0 ty vs (by have:=hB2.there; rwa [← hsz] at this) hi2 (by simpa using h1)]
 have hgr:=setCells_grown w1.heap.size vs.toList 0 w2
 have hC3:Below W.heap.size W (w2.setCells w1.heap.size 0 vs.toList):=bel_only hC2 hgr (fun q hq=>by injection hq; omega)
 refine M3.mix_skip (w2.setCells w1.heap.size 0 vs.toList) hox (by simp [Region.wanted,hgx]) hrun ⟨hC3,?_⟩
 rw [hdx]
 refine M3.mix_end r3 ?_
 intro w3 hC4 hb3
 exact hQ0 _ _ (M _ w3 hge ((hB2.setAll hsz).adv hb3) hC4)
theorem wp_region_box1 {P:Program} {id:Nat} {Q:Exit→Act→World→Prop} {a aE : Act} {W:World} {L:List Oper} (is:List Nat) (ia ix iz : Nat) {d dz : Nat} {t ty : TypeId} {zs:Array Value} (vs:Array Value) (v:Value) {x y : Operand} {oa ox oz : Oper}
  (hm:P.follows .mixedOrders = true) (hs:Region.noSelect L.toArray = true) (hn:3+is.length = L.length)
  (hi:is.all (fun i=>decide (i < L.toArray.size)) = true) (hB:M3.lexSel .any L.toArray is (Array.replicate L.length false) = true) (hd:M3.dstsOk a.tmps.size (M3.opsAt L.toArray is) = true)
  (r1:Region.ready .any L.toArray (M3.listSel is (Array.replicate L.length false)) = [ia]) (r2:Region.ready .any L.toArray ((M3.listSel is (Array.replicate L.length false)).setIfInBounds ia true) = [ix])
  (r3:Region.ready .any L.toArray (((M3.listSel is (Array.replicate L.length false)).setIfInBounds ia true).setIfInBounds ix true) = [iz])
  (r4:Region.ready .any L.toArray ((((M3.listSel is (Array.replicate L.length false)).setIfInBounds ia true).setIfInBounds ix true).setIfInBounds iz true) = [])
  (hoa:L.toArray[ia]? = some oa) (hox:L.toArray[ix]? = some ox) (hoz:L.toArray[iz]? = some oz) (hda:oa.dst = some d) (hga:oa.guard = none) (hdx:ox.dst = none) (hgx:ox.guard = none) (hxo:ox.op = .store ty (.tmp d) x)
  (hdz:oz.dst = some dz) (hgz:oz.guard = none) (hzo:oz.op = .assign y)
  (hra:∀ (b:Act) (w:World),(execOp b.eval oa).run P w = .ok (.value (.pointer (some ⟨w.heap.size,0,none⟩))) (w.alloc (.cells zs t)))
  (hsz:vs.size = zs.size) (hi2:(P.info? ty).map (·.size) = some vs.size) (h1:vs.toList.all (·.oneCell') = true)
  (H:∀ F:World→Prop,Stable F→Inhabited (BwC (fun w'=>Below W.heap.size W w') F)→wpQuiet P L.toArray (fun w'=>∃ p:BwC (fun w'=>Below W.heap.size W w') F,w' = p.w') (fun a'=>a' = aE) (M3.opsAt L.toArray is) a)
  (E:∀ g,(aE.put (some d) (.pointer (some ⟨g,0,none⟩))).eval x = .agg vs∧(aE.put (some d) (.pointer (some ⟨g,0,none⟩))).eval (.tmp d) = .pointer (some ⟨g,0,none⟩)∧((aE.put (some d) (.pointer (some ⟨g,0,none⟩))).put none undef).eval y = v)
  (M:∀ g w',W.heap.size≤g→Blk w' g t vs→Below W.heap.size W w'→Q .normal (((aE.put (some d) (.pointer (some ⟨g,0,none⟩))).put none undef).put (some dz) v) w') : (Code.region id L.toArray true).wp P Q a W:=by
 have hxe:=fun g=>(E g).1
 have hde:=fun g=>(E g).2.1
 have hze:=fun g=>(E g).2.2
 refine M3.wp_region_sel (C:=fun w'=>Below W.heap.size W w') (stable_below _ _ (Nat.le_refl _)) (Below.refl _ _) is 3 hm hs hn hi hB hd H ?_
 intro Q0 hQ0
 refine M3.mix_step [ia] r1 (by simp) ?_
 intro w1 hC1 _ i hi'
 rw [List.mem_singleton] at hi'
 subst hi'
 refine M3.mix_val (.pointer (some ⟨w1.heap.size,0,none⟩)) (w1.alloc (.cells zs t)) hoa (by simp [Region.wanted,hga]) (hra _ _) ⟨bel_alloc hC1 _,?_⟩
 rw [hda]
 refine M3.mix_step [ix] r2 (by simp) ?_
 intro w2 hC2 hb2 i hi'
 rw [List.mem_singleton] at hi'
 subst hi'
 have hB2:=(Blk.new w1 t zs).adv hb2
 have hge:=hC1.size
 have hrun:(execOp (aE.put (some d) (.pointer (some ⟨w1.heap.size,0,none⟩))).eval ox).run P w2 = .ok .skip (w2.setCells w1.heap.size 0 vs.toList):=by
  unfold execOp
  simp only [hxo,hde,hxe,Instr.storeAt,Instr.sureAddr,Sem.run_bind,Sem.run_pure,Result.andThen_ok,run_storeVar_mid w2 w1.heap.size 0 ty vs (by have:=hB2.there; rwa [← hsz] at this) hi2 (by simpa using h1)]
 have hgr:=setCells_grown w1.heap.size vs.toList 0 w2
 have hC3:Below W.heap.size W (w2.setCells w1.heap.size 0 vs.toList):=bel_only hC2 hgr (fun q hq=>by injection hq; omega)
 refine M3.mix_skip (w2.setCells w1.heap.size 0 vs.toList) hox (by simp [Region.wanted,hgx]) hrun ⟨hC3,?_⟩
 rw [hdx]
 have hB3:=hB2.setAll hsz
 refine M3.mix_step [iz] r3 (by simp) ?_
 intro w3 hC4 hb3 i hi'
 rw [List.mem_singleton] at hi'
 subst hi'
 have hrun2:(execOp ((aE.put (some d) (.pointer (some ⟨w1.heap.size,0,none⟩))).put none undef).eval oz).run P w3 = .ok (.value v) w3:=by
  unfold execOp
  simp only [hzo,hze,Sem.run_pure]
 refine M3.mix_val v w3 hoz (by simp [Region.wanted,hgz]) hrun2 ⟨hC4,?_⟩
 rw [hdz]
 refine M3.mix_end r4 ?_
 intro w4 hC5 hb4
 exact hQ0 _ _ (M _ w4 hge ((hB3.adv hb3).adv hb4) hC5)
theorem wp_region_fin {P:Program} {id:Nat} {Q:Exit→Act→World→Prop} {a aE : Act} {W:World} {L:List Oper} (is:List Nat) (ix:Nat) {ox:Oper}
  (hm:P.follows .mixedOrders = true) (hs:Region.noSelect L.toArray = true) (hn:1+is.length = L.length)
  (hi:(is.all (fun i=>decide (i < L.toArray.size)) && is.all (M5.lastOf .any L.toArray ix) && M3.lexSel .any L.toArray is (Array.replicate L.length false)) = true) (hd:M3.dstsOk a.tmps.size (M3.opsAt L.toArray is) = true)
  (r1:Region.ready .any L.toArray (M3.listSel is (Array.replicate L.length false)) = [ix]) (r2:Region.ready .any L.toArray ((M3.listSel is (Array.replicate L.length false)).setIfInBounds ix true) = [])
  (hox:L.toArray[ix]? = some ox) (hdx:ox.dst = none) (hgx:ox.guard = none)
  (H:∀ F:World→Prop,Stable F→Inhabited (BwC (fun w'=>Below W.heap.size W w') F)→wpQuiet P L.toArray (fun w'=>∃ p:BwC (fun w'=>Below W.heap.size W w') F,w' = p.w') (fun a'=>a' = aE) (M3.opsAt L.toArray is) a)
  (M:∀ w',Below W.heap.size W w'→∃ w2,(execOp aE.eval ox).run P w' = .ok .skip w2∧Q .normal (aE.put none undef) w2) : (Code.region id L.toArray true).wp P Q a W:=by
 refine M5.wp_region_sel (C:=fun w'=>Below W.heap.size W w') (stable_below _ _ (Nat.le_refl _)) (Below.refl _ _) is 1 ix hm hs hn hi hd H ?_
 intro Q0 hQ0
 refine M5.mix_last r1 r2 ?_
 intro w1 hC1 _
 obtain ⟨w2,hrun,hq⟩:=M w1 hC1
 refine M3.mix_skip w2 hox (by simp [Region.wanted,hgx]) hrun ?_
 rw [hdx]
 exact hQ0 _ _ hq
theorem mix_pure5 {P:Program} {ops:Array Oper} {md:Region.Mode} {C:World→Prop} {s:Nat} {Q:Act→World→Prop} {n:Nat} {listed:Array Bool} {a:Act} {w:World} (k:Nat) {o:Oper} (v:Value) (hr:Region.ready md ops listed = [k]) (hk:k ≠ s) (ho:ops[k]? = some o) (hg:o.guard = none)
  (hrun:∀ w',(execOp a.eval o).run P w' = .ok (.value v) w') (h:M5.wpMix P md ops C s Q n (listed.setIfInBounds k true) (a.put o.dst v) w) : M5.wpMix P md ops C s Q (n+1) listed a w:=by
 intro w' c b
 refine ⟨fun e=>(by rw [hr] at e; cases e),fun j hj=>?_⟩
 rw [hr,List.mem_singleton] at hj
 subst hj
 simp only [if_neg hk]
 exact M3.mix_val v w' ho (by simp [Region.wanted,hg]) (hrun w') ⟨c,M5.wpMix_mono h b⟩
theorem wp_region_fin2 {P:Program} {id:Nat} {Q:Exit→Act→World→Prop} {a aE : Act} {W:World} {L:List Oper} (is:List Nat) (k1 k2 ix : Nat) {o1 o2 ox : Oper} (v1 v2 : Value)
  (hm:P.follows .mixedOrders = true) (hs:Region.noSelect L.toArray = true) (hn:3+is.length = L.length)
  (hi:(is.all (fun i=>decide (i < L.toArray.size)) && is.all (M5.lastOf .any L.toArray ix) && M3.lexSel .any L.toArray is (Array.replicate L.length false)) = true) (hd:M3.dstsOk a.tmps.size (M3.opsAt L.toArray is) = true)
  (r1:Region.ready .any L.toArray (M3.listSel is (Array.replicate L.length false)) = [k1]) (r2:Region.ready .any L.toArray ((M3.listSel is (Array.replicate L.length false)).setIfInBounds k1 true) = [k2])
  (r3:Region.ready .any L.toArray (((M3.listSel is (Array.replicate L.length false)).setIfInBounds k1 true).setIfInBounds k2 true) = [ix])
  (r4:Region.ready .any L.toArray ((((M3.listSel is (Array.replicate L.length false)).setIfInBounds k1 true).setIfInBounds k2 true).setIfInBounds ix true) = [])
  (hk:(decide (k1 ≠ ix) && decide (k2 ≠ ix)) = true)
  (ho1:L.toArray[k1]? = some o1) (ho2:L.toArray[k2]? = some o2) (hox:L.toArray[ix]? = some ox) (hg1:o1.guard = none) (hg2:o2.guard = none) (hdx:ox.dst = none) (hgx:ox.guard = none)
  (H:∀ F:World→Prop,Stable F→Inhabited (BwC (fun w'=>Below W.heap.size W w') F)→wpQuiet P L.toArray (fun w'=>∃ p:BwC (fun w'=>Below W.heap.size W w') F,w' = p.w') (fun a'=>a' = aE) (M3.opsAt L.toArray is) a)
  (E1:∀ w,(execOp aE.eval o1).run P w = .ok (.value v1) w) (E2:∀ w,(execOp (aE.put o1.dst v1).eval o2).run P w = .ok (.value v2) w)
  (M:∀ w',Below W.heap.size W w'→∃ w2,(execOp ((aE.put o1.dst v1).put o2.dst v2).eval ox).run P w' = .ok .skip w2∧Q .normal (((aE.put o1.dst v1).put o2.dst v2).put none undef) w2) : (Code.region id L.toArray true).wp P Q a W:=by
 simp only [Bool.and_eq_true,decide_eq_true_eq] at hk
 refine M5.wp_region_sel (C:=fun w'=>Below W.heap.size W w') (stable_below _ _ (Nat.le_refl _)) (Below.refl _ _) is 3 ix hm hs hn hi hd H ?_
 intro Q0 hQ0
 refine mix_pure5 k1 v1 r1 hk.1 ho1 hg1 E1 ?_
 refine mix_pure5 k2 v2 r2 hk.2 ho2 hg2 E2 ?_
 refine M5.mix_last r3 r4 ?_
 intro w1 hC1 _
 obtain ⟨w2,hrun,hq⟩:=M w1 hC1
 refine M3.mix_skip w2 hox (by simp [Region.wanted,hgx]) hrun ?_
 rw [hdx]
 exact hQ0 _ _ hq
end Go.Proofs.YtlhkojcmcmkmaaaGreat
namespace Go.Proofs.YtlhkojcmcmkmaaaGreat
open Go.RowKit
theorem linesK_zero (k:Int) (c:ByteArray) : linesK k [⟨c,0⟩] = []:=by simp [linesK,nz]
theorem linesK_one (k:Int) (c:ByteArray) {n:Int} (h:n ≠ 0) : linesK k [⟨c,n⟩] = [⟨k,c,n⟩]:=by
 rw [linesK,List.filter_cons_of_pos (by simp [nz,h])]; rfl
set_option maxRecDepth 100000 in
set_option maxHeartbeats 1000000 in
theorem lineP32 {w0:World} {g:Nat} {c:CalF} {s:CalS} {ls:List LineT} {w:World} (h:CalI w0 g c s ls w) (kind:Int) (code:ByteArray) (amount:Int) (hl:ls.length≤1000000) :
  Calls Tryz.prog 104 #[.pointer (some ⟨g,0,none⟩),.int .i64 kind,.string code,.int .i64 amount] w fun e w'=>e = .returned (.tuple #[])∧∃ v',CalI w0 g c { s with lv:=v' } (ls++linesK kind [⟨code,amount⟩]) w'∧Mv g s.lv w v' w':=by
 have HG:=Lib.hid (fun v' w' ls' n=>h.grow (w':=w') (v':=v') (ls':=ls') (n:=n))
 have HI:=Lib.hid h
 have ho:=h.own
 have hs0:=h.bel.size
 have z32:w.cell? ⟨g,32,none⟩ = some s.lv:=h.blk.cell 32
 have hB:=Lib.hid h.blk
 have hfar:=Lib.hid h.far
 clear h
 go_enter Tryz.func104,Tryz.ntmps104
 by_cases h0:amount = 0
 ·
  subst h0
  go_wp2
  go_end0
  exact ⟨rfl,s.lv,by rw [linesK_zero,List.append_nil]; exact HI.out,Mv.refl _ _ _⟩
 ·
  have HL:=Lib.hid (linesK_one kind code h0)
  have hne:(amount != 0) = true:=by simp [h0]
  go_wp2_with (at_builtin; (refine wpList_append_one_at _ _ 25 ⟨kind,code,amount⟩ _ 32 _ infoL Tryz.underlying25 ho encL_len (by omega) rfl (encL_one _) (by omega) (by omega) (by omega) (by rfl) (by rfl) (by rfl) (by rfl) (by simp) (by rfl) ?_); intro v5 w5 hN5 hg5 hvo; obtain ⟨A5,c5,hv5,_,_,_,_⟩:=hN5.form2 encL_len; subst hv5; have hB5:=hB.out.grown hg5 (fun e=>hfar.out e.symm); have f5:=hB5.frozen 32; have z5:w5.cell? ⟨g,32,none⟩ = some s.lv:=hB5.cell 32)
  have hG:=HG.out _ w5 _ _ hN5 hg5 hvo
  simp only [List.length_append,List.length_cons,List.length_nil,Nat.zero_add] at hG
  rw [← HL.out] at hG
  go_end0
  exact ⟨rfl,_,hG⟩
set_option maxRecDepth 100000 in
set_option maxHeartbeats 1000000 in
theorem bearP32 {w0:World} {g:Nat} {c:CalF} {s:CalS} {ls:List LineT} {w:World} (h:CalI w0 g c s ls w) (kind:Int) (A:Option Addr) (cap:Nat) (l:List Elem) (hA:Lst encE 2 w g s.lv A l) (hl:ls.length≤1000) (hll:l.length≤128)
  (hb : -1000000000000000≤s.left∧s.left≤1000000000000000) (hx:∀ x ∈ l,0≤x.amount∧x.amount≤1000000000000) :
  Calls Tryz.prog 106 #[.pointer (some ⟨g,0,none⟩),.int .i64 kind,.slice A l.length cap] w fun e w'=>e = .returned (.tuple #[])∧∃ v',CalI w0 g c { s with lv:=v',left:=s.left - sumE l } (ls++linesK kind l) w'∧Mv g s.lv w v' w':=by
 have HX:=Lib.hid hx
 have HI:=Lib.hid h
 have HA:=Lib.hid hA
 clear hx h hA
 obtain ⟨b0,b1⟩:=hb
 have HLE:Hid (∀ k,k≤l.length→(linesK kind (l.take k)).length≤128):=fun k hk=>by
  have:=List.length_filter_le nz (l.take k)
  simp only [linesK,List.length_map,List.length_take] at this ⊢
  omega
 have HSB:Hid (∀ k,k≤l.length→0≤sumE (l.take k)∧sumE (l.take k)≤128000000000000):=fun k hk=>by
  have:=sumE_bd (l.take k) 1000000000000 (fun x hx=>HX.out x (List.mem_of_mem_take hx))
  rw [List.length_take] at this
  omega
 go_enter Tryz.func106,Tryz.ntmps106
 go_wp2_with fail
 go_loopw [10] (fun i wr=>∃ (k:Nat) (v':Value),k≤l.length∧i = .int .i64 k∧CalI w0 g c { s with lv:=v',left:=s.left - sumE (l.take k) } (ls++linesK kind (l.take k)) wr∧Mv g s.lv w v' wr) (fun i _=>l.length - (intOf i).toNat)
 case atStart=>exact ⟨0,s.lv,by omega,rfl,by simpa [linesK,sumE] using HI.out,Mv.refl _ _ _⟩
 case round =>
  rename World=>wr
  obtain ⟨k,vl,hk,rfl,hI,hm⟩:=hrel
  by_cases hlt:k < l.length
  ·
   obtain ⟨b,off,hAe,hbb,hc⟩:=(HA.out.mv hm).sl.at_ hlt
   have c0:=hc 0 _ rfl
   have c1:=hc 1 _ rfl
   simp only [Nat.add_zero] at c0
   rw [hAe]
   have HT:Hid (l.take (k+1) = l.take k++[l[k]]):=List.take_succ_eq_append_getElem hlt
   have HS:Hid (sumE (l.take (k+1)) = sumE (l.take k)+l[k].amount):=sumE_take l k hlt
   have hki:(k:Int) < (l.length:Int):=by omega
   obtain ⟨x0,x1⟩:=HX.out _ (List.getElem_mem hlt)
   obtain ⟨s0,s1⟩:=HSB.out k (by omega)
   have hl3:=HLE.out k (by omega)
   have HT2:Hid (linesK kind (l.take (k+1)) = linesK kind (l.take k)++linesK kind [l[k]]):=by rw [Hid,HT.out,linesK_append]
   clear hc HT
   generalize l[k] = x at *
   generalize sumE (l.take k) = q at *
   have hBo:=Blk.new wr 69 #[.string x.code,.int .i64 x.amount]
   have hbn:=below_new wr (.cells #[.string x.code,.int .i64 x.amount] 69)
   have hfr:vl.ownBlock ≠ some wr.heap.size:=fun e=>by have:=(hI.row _ e).2; omega
   have hgr:wr.heap.size ≠ g:=by have:=hI.lt; omega
   go_upto_region 3 with fail
   generalize wr.alloc (Obj.cells _ _) = W1 at hBo hbn ⊢
   have hI1:=hI.adv hbn
   have hm1:=hm.trans (Mv.bel hbn)
   have z0:=hBo.cell 0
   have z1:=hBo.cell 1
   simp only [nqg,nqh,nqi] at z0 z1
   clear hI hbn c0 c1 hm
   go_wp2_with fail
   refine (lineP32 hI1 kind x.code x.amount (by simp; omega)).mono ?_
   rintro e w2 ⟨rfl,v2,hI2,hm2⟩
   have hB2:=hBo.mv hm2 hgr hfr
   have hm3:=hm1.trans hm2
   rw [List.append_assoc,← HT2.out] at hI2
   have hlt2:=hI2.lt
   have hlb2:=hB2.lt
   have zz33:w2.cell? ⟨g,33,none⟩ = some (.int .i64 (s.left - q)):=hI2.blk.cell 33
   have yy1:w2.cell? ⟨wr.heap.size,1,none⟩ = some (.int .i64 x.amount):=hB2.cell 1
   clear z0 z1 hBo hB2 hI1 hm1 hm2
   go_upto_region 4 with fail
   refine wp_region_fin2 (aE:=?aE1) [0,1,2,3,4,5,6] 7 8 9 (.pointer (some ⟨g,0,none⟩)) (.pointer (some ⟨g,33,none⟩)) (by kernel_rfl) (by kernel_rfl) rfl (by kernel_rfl) (by rfl) (by kernel_rfl) (by kernel_rfl) (by kernel_rfl) (by kernel_rfl) rfl rfl rfl rfl rfl rfl rfl rfl ?H1 ?E1 ?G1 ?M1
   case H1 =>
    intro F hF inst
    simp only [M3.opsAt,List.getElem?_toArray,List.getElem?_cons_zero,List.getElem?_cons_succ]
    have e33:=BwC.cellB (F:=F) (a:=⟨g,33,none⟩) (by exact hlt2) zz33
    have d1:=BwC.cellB (F:=F) (a:=⟨wr.heap.size,1,none⟩) (by exact hlb2) yy1
    repeat (first | go_big_quiet_step (first | fail) | quiet_step (first | fail))
    refine wpQuiet_nil ?_
    rfl
   case E1=>exact fun _=>by first | rfl | go_simp
   case G1=>exact fun _=>by first | rfl | go_simp
   case M1 =>
    intro w4 hb4
    try simp only [Act.put,List.setIfInBounds_toArray]
    have hI4:=hI2.adv hb4
    have hm4:=hm3.trans (Mv.bel hb4)
    have e33:w4.cell? ⟨g,33,none⟩ = some (.int .i64 (s.left - q)):=hI4.blk.cell 33
    have f33:=hI4.blk.frozen 33
    refine ⟨w4.setCell ⟨g,33,none⟩ (.int .i64 (s.left - q - x.amount)),by go_simp,?_⟩
    have hI5:=hI4.putLeft (s.left - q - x.amount)
    have hm5:=hm4.trans (Mv.set 33 (.int .i64 (s.left - q - x.amount)))
    generalize w4.setCell ⟨g,33,none⟩ (.int .i64 (s.left - q - x.amount)) = w5 at hI5 hm5 ⊢
    clear hI4 hm4 e33 f33 hI2 hm3 zz33 yy1
    go_wp2
    go_roundw
    case rel =>
     have hfin:∃ (k':Nat) (v':Value),k'≤l.length∧Value.int .i64 ((k:Int)+1) = .int .i64 k'∧CalI w0 g c { s with lv:=v',left:=s.left - sumE (l.take k') } (ls++linesK kind (l.take k')) w5∧Mv g s.lv w v' w5:=⟨k+1,v2,by omega,by go_num,by rw [HS.out,← Int.sub_sub]; exact hI5,hm5⟩
     first | exact hfin | ((repeat apply Exists.intro); exact ⟨hfin,rfl⟩)
    case measure=>simp [intOf]; omega
  ·
   obtain rfl:k = l.length:=by omega
   rw [List.take_length] at hI
   go_wp2
   go_end0
   exact ⟨rfl,vl,hI,hm⟩
end Go.Proofs.YtlhkojcmcmkmaaaGreat
namespace Go.Proofs.YtlhkojcmcmkmaaaGreat
open Go.RowKit
def cmpS (a b : ByteArray) : Int:=if Op.bytesLess a.toList b.toList then -1 else if !(Op.bytesLess a.toList b.toList || a.toList == b.toList) then 1 else 0
set_option maxHeartbeats 400000 in
theorem isNaN_any (a:ByteArray) (w:World) : Calls Tryz.prog 126 #[.string a] w fun e w'=>e = .returned (.bool false)∧w = w':=by
 go_enter Tryz.func126,Tryz.ntmps126
 go_wp2
 go_ret
 exact ⟨by simp,rfl⟩
set_option maxHeartbeats 400000 in
theorem compare_any (a b : ByteArray) (w:World) : Calls Tryz.prog 85 #[.string a,.string b] w fun e w'=>e = .returned (.int .i64 (cmpS a b))∧w = w':=by
 go_enter Tryz.func85,Tryz.ntmps85
 go_wp2_with (go_at_call 126; refine (isNaN_any _ _).mono ?_; rintro e w' ⟨rfl,rfl⟩)
 all_goals go_ret
 all_goals refine ⟨?_,rfl⟩
 all_goals (simp [cmpS, *]; try simp_all)
end Go.Proofs.YtlhkojcmcmkmaaaGreat

namespace Go.Proofs.YtlhkojcmcmkmaaaGreat
open Go.RowKit Go.Sort Go.Maps
theorem lawS : Keyed Tryz.prog 9:=string_keyed Tryz.underlying9
theorem zeroI (w:World) : (zeroValue 3).run Tryz.prog w = .ok (.int .i64 0) w:=by kernel_rfl
abbrev i64L (n:Int) : DataW Unit:=.lit (.int .i64 n)
structure MapD (D:DataW Unit) (K:List UInt8→Bool) (T:List UInt8→Int) : Prop where
 isMap:IsMap D
 has:∀ c,Maps.has D (.string c) = K c
 at_:∀ c,D.atKey (.string c) (i64L 0) = i64L (T c)
theorem length_insert1 (x:Lit × DataW Unit) : ∀ l,(DataW.insert x l).length = l.length+1
 | []=>rfl
 | y :: l=>by
  rw [DataW.insert]
  split
  ·
   rfl
  ·
   simp [length_insert1 x l]
theorem length_insertAll (l:List (Lit × DataW Unit)) : (l.foldr DataW.insert []).length = l.length:=by
 induction l with
 | nil=>rfl
 | cons a l ih=>rw [List.foldr_cons,length_insert1,ih]; rfl
theorem keyLit (s:ByteArray) : WideAt.IsKeyLit (key s):=trivial
theorem MapD.empty : MapD (.map []) (keyE []) (totE []):=⟨isMap_empty,fun _=>rfl,fun _=>rfl⟩
theorem MapD.put_ {D:DataW Unit} {K K' : List UInt8→Bool} {T T' : List UInt8→Int} (h:MapD D K T) (s:ByteArray) (n:Int) (hK : ∀ c,K' c = (K c || decide (s.data.toList = c))) (hT : ∀ c,T' c = if s.data.toList = c then n else T c) : MapD (D.put (key s) (i64L n)) K' T':=by
 refine ⟨h.isMap.put _ _,fun c=>?_,fun c=>?_⟩
 ·
  by_cases e:s.data.toList = c
  ·
   subst e
   rw [show Lit.string s.data.toList = key s from rfl,has_put_same h.isMap (keyLit s),hK]; simp
  ·
   rw [has_put_other (fun e'=>e (by simpa [key] using e'.symm)),h.has,hK]; simp [e]
 ·
  by_cases e:s.data.toList = c
  ·
   subst e
   rw [show Lit.string s.data.toList = key s from rfl,atKey_put_same h.isMap (keyLit s),hT]; simp
  ·
   rw [atKey_put_other (fun e'=>e (by simpa [key] using e'.symm)),h.at_,hT]; simp [e]
theorem wf64 {n:Int} (h1 : -9223372036854775808≤n) (h2:n≤9223372036854775807) : (Lit.int .i64 n).wf = true:=by
 simp [Lit.wf,IntKind.min,IntKind.max,IntKind.signed,IntKind.bits]; omega
theorem keyE_take (xs:List Elem) (k:Nat) (h:k < xs.length) (c:List UInt8) : keyE (xs.take (k+1)) c = (keyE (xs.take k) c || decide (xs[k].code.data.toList = c)):=by
 rw [List.take_succ_eq_append_getElem h,keyE_append]; simp [keyE]
theorem totE_take (xs:List Elem) (k:Nat) (h:k < xs.length) (c:List UInt8) : totE (xs.take (k+1)) c = totE (xs.take k) c+if xs[k].code.data.toList = c then xs[k].amount else 0:=by
 rw [List.take_succ_eq_append_getElem h,totE_append]; simp [totE]
end Go.Proofs.YtlhkojcmcmkmaaaGreat
