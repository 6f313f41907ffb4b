/- Joined texts: NetM AppAt BlkOps. Conditions: as stated. -/
import Derived.Deep.MidRow
import Derived.Test.YtlhkojcmcmkmaaaGreatJData
import Derived.Test.YtlhkojcmcmkmaaaGreatJAlc
import Derived.Test.YtlhkojcmcmkmaaaGreatJDedV
import Derived.Test.YtlhkojcmcmkmaaaGreatJMix4
namespace Go.Proofs.YtlhkojcmcmkmaaaGreat
open Go.RowKit
structure CalF where
 r:RulesM
 p:PersonM
 y:YearM
 K:Option Addr
 kc:Nat
 kept:List Elem
 first:Bool
structure CalS where
 b:BasesT
 lv:Value
 left:Int
 bv:Value
 av:Value
 tv:Value
 insured:Int
 levies:Int
 relief:Int
 income:Int
 tax:Int
def calC (c:CalF) (s:CalS) : Array Value:=#[.slice c.r.Aw c.r.ws.length c.r.cw,.slice c.r.As c.r.ss.length c.r.cs,.int .i64 c.r.tm.t.method,.slice c.r.tm.Ab c.r.tm.t.brs.length c.r.tm.cb,.int .i64 c.r.tm.t.allowance,.int .i64 c.r.tm.t.credit,.int .i64 c.r.tm.t.unit,.int .i64 c.r.tm.t.mode,.slice c.r.tm.Ar c.r.tm.t.rows.length c.r.tm.cr,.int .i64 c.r.count,.int .i64 c.r.sh.fixed,.int .i64 c.r.sh.dependent,.int .i64 c.r.sh.lower,.int .i64 c.r.sh.share,.int .i64 c.r.sh.top,.int .i64 c.r.recover,.int .i64 c.p.deps,.slice c.p.Ad c.p.ds.length c.p.cd,.slice c.p.Ao c.p.os.length c.p.co,.slice c.p.Ae c.p.es.length c.p.ce,.int .i64 c.y.periods,.int .i64 c.y.income,.int .i64 c.y.withheld,.slice c.y.Ai c.y.ins.length c.y.ci,.slice c.y.At c.y.taken.length c.y.ct,.slice c.K c.kept.length c.kc,.bool c.first,.int .i64 s.b.g,.int .i64 s.b.c,.int .i64 s.b.t,.int .i64 s.b.i,.int .i64 s.b.a,s.lv,.int .i64 s.left,s.bv,s.av,s.tv,.int .i64 s.insured,.int .i64 s.levies,.int .i64 s.relief,.int .i64 s.income,.int .i64 s.tax]
structure Mv (g:Nat) (v:Value) (w:World) (v' : Value) (w' : World) : Prop where
 os:w'.os = w.os
 tape:w'.tape = w.tape
 output:w'.output = w.output
 size:w.heap.size≤w'.heap.size
 block:∀ k,k < w.heap.size→k ≠ g→v.ownBlock ≠ some k→w'.heap[k]? = w.heap[k]?
 nx:v'.ownBlock = v.ownBlock ∨ ∀ q,v'.ownBlock = some q→w.heap.size≤q
section
variable {g:Nat} {v v' v'':Value} {w w' w'':World}
theorem Mv.refl (g:Nat) (v:Value) (w:World) : Mv g v w v w:=⟨rfl,rfl,rfl,Nat.le_refl _,fun _ _ _ _=>rfl,.inl rfl⟩
theorem Mv.bel (hb:Below w.heap.size w w') : Mv g v w v w':=⟨hb.os,hb.tape,hb.output,hb.size,fun k hk _ _=>hb.block k hk,.inl rfl⟩
theorem Mv.trans (h:Mv g v w v' w') (k:Mv g v' w' v'' w'') : Mv g v w v'' w'':=by
 refine ⟨k.os.trans h.os,k.tape.trans h.tape,k.output.trans h.output,Nat.le_trans h.size k.size,fun i hi hg hv=>?_,?_⟩
 ·
  refine (k.block i (Nat.lt_of_lt_of_le hi h.size) hg (fun e=>?_)).trans (h.block i hi hg hv)
  rcases h.nx with e2 | e2
  ·
   exact hv (e2.symm.trans e)
  ·
   have:=e2 _ e; omega
 ·
  rcases k.nx with e | e
  ·
   rcases h.nx with e2 | e2
   ·
    exact .inl (e.trans e2)
   ·
    exact .inr fun q hq=>e2 q (e.symm.trans hq)
  ·
   exact .inr fun q hq=>Nat.le_trans h.size (e q hq)
theorem Mv.set (i:Nat) (u:Value) : Mv g v w v (w.setCell ⟨g,i,none⟩ u) :=
 ⟨rfl,rfl,rfl,by simp [World.setCell],fun k _ hg _=>Below.heap_setCell w ⟨g,i,none⟩ u k hg,.inl rfl⟩
theorem Mv.app {n:Nat} (hg:w.grownBy w' v.ownBlock) (ho:v'.ownBlock = v.ownBlock ∨ v'.ownBlock = some (w.heap.size+n)) : Mv g v w v' w' :=
 ⟨hg.os,hg.tape,hg.output,hg.size,fun k hk _ hv=>hg.block k hk (fun e=>hv e.symm),by
  rcases ho with e | e
  ·
   exact .inl e
  ·
   exact .inr fun q hq=>by rw [e] at hq; injection hq; omega⟩
theorem Mv.far {b:Nat} (m:Mv g v w v' w') (hb:b < w.heap.size) (hv:v.ownBlock ≠ some b) : v'.ownBlock ≠ some b:=by
 rcases m.nx with e | e
 ·
  rw [e]; exact hv
 ·
  intro e2; have:=e _ e2; omega
theorem Blk.mv {b:Nat} {t:TypeId} {cs:Array Value} (h:Blk w b t cs) (m:Mv g v w v' w') (hg:b ≠ g) (hv:v.ownBlock ≠ some b) : Blk w' b t cs:=(m.block b h.lt hg hv).trans h
end
structure Lst {α:Type} (enc:α→List Value) (k:Nat) (w:World) (g:Nat) (v:Value) (A:Option Addr) (xs:List α) : Prop where
 sl:SliceOf enc k w w.heap.size A xs
 ne:xs ≠ []→∀ a,A = some a→a.block ≠ g∧v.ownBlock ≠ some a.block
section
variable {α:Type} {enc:α→List Value} {k g:Nat} {v v':Value} {w w':World} {A:Option Addr} {xs:List α}
theorem Lst.mv (h:Lst enc k w g v A xs) (m:Mv g v w v' w') : Lst enc k w' g v' A xs:=by
 refine ⟨fun hx=>?_,fun hx a ha=>?_⟩
 ·
  obtain ⟨b,off,e,hb,hc⟩:=h.sl hx
  obtain ⟨n1,n2⟩:=h.ne hx _ e
  exact ⟨b,off,e,Nat.lt_of_lt_of_le hb m.size,fun i x hi j u hj=>(World.cell?_of_block (m.block b hb n1 n2)).trans (hc i x hi j u hj)⟩
 ·
  obtain ⟨n1,n2⟩:=h.ne hx a ha
  refine ⟨n1,fun e=>?_⟩
  rcases m.nx with e2 | e2
  ·
   exact n2 (e2.symm.trans e)
  ·
   obtain ⟨b,off,e3,hb,_⟩:=h.sl hx
   rw [ha] at e3
   injection e3 with e3
   subst e3
   exact absurd (show w.heap.size≤b from e2 _ e) (by omega)
theorem Lst.new (h:SliceOf enc k w' w'.heap.size A xs) (hf : ∀ a,A = some a→w.heap.size≤a.block) (hg:g < w.heap.size) (hv : ∀ q,v.ownBlock = some q→q < w.heap.size) : Lst enc k w' g v A xs :=
 ⟨h,fun _ a ha=>⟨by have:=hf a ha; omega,fun e=>by have:=hf a ha; have:=hv _ e; omega⟩⟩
theorem Lst.old {B:Nat} (h:SliceOf enc k w B A xs) (hw:B≤w.heap.size) (hg:B≤g) (hv : ∀ q,v.ownBlock = some q→B≤q) : Lst enc k w g v A xs:=by
 refine ⟨h.more hw,fun hx a ha=>?_⟩
 obtain ⟨b,off,e3,hb,_⟩:=h hx
 rw [ha] at e3
 injection e3 with e3
 subst e3
 exact ⟨by show b ≠ g; omega,fun e=>by have:=hv b e; omega⟩
end
structure CalI (w0:World) (g:Nat) (c:CalF) (s:CalS) (ls:List LineT) (w:World) : Prop where
 blk:Blk w g 103 (calC c s)
 hg:w0.heap.size≤g
 bel:Below w0.heap.size w0 w
 own:Own encL 3 30 w w0.heap.size s.lv ls
 far:s.lv.ownBlock ≠ some g
namespace CalI
variable {w0:World} {g:Nat} {c:CalF} {s:CalS} {ls:List LineT} {w w':World}
theorem lt (h:CalI w0 g c s ls w) : g < w.heap.size:=h.blk.lt
theorem row (h:CalI w0 g c s ls w) : ∀ q,s.lv.ownBlock = some q→w0.heap.size≤q∧q < w.heap.size:=fun _ e=>h.own.block_lt e
theorem adv (h:CalI w0 g c s ls w) (hb:Below w.heap.size w w') : CalI w0 g c s ls w':=⟨h.blk.adv hb,h.hg,bel_adv h.bel hb,h.own.adv hb,h.far⟩
theorem put (h:CalI w0 g c s ls w) (i:Nat) (u:Value) (s' : CalS) (hs : (calC c s).setIfInBounds i u = calC c s') (hl:s'.lv = s.lv) : CalI w0 g c s' ls (w.setCell ⟨g,i,none⟩ u) :=
 ⟨hs ▸ h.blk.set_ i u,h.hg,bel_set h.bel h.hg i u,by rw [hl]; exact h.own.setCell (p:=⟨g,i,none⟩) (fun q hq e=>h.far (by rw [hq]; exact congrArg some e)) u,by rw [hl]; exact h.far⟩
theorem putLeft (h:CalI w0 g c s ls w) (x:Int) : CalI w0 g c { s with left:=x } ls (w.setCell ⟨g,33,none⟩ (.int .i64 x)):=h.put 33 _ _ (by simp [calC]) rfl
theorem putBv (h:CalI w0 g c s ls w) (x:Value) : CalI w0 g c { s with bv:=x } ls (w.setCell ⟨g,34,none⟩ x):=h.put 34 _ _ (by simp [calC]) rfl
theorem putAv (h:CalI w0 g c s ls w) (x:Value) : CalI w0 g c { s with av:=x } ls (w.setCell ⟨g,35,none⟩ x):=h.put 35 _ _ (by simp [calC]) rfl
theorem putTv (h:CalI w0 g c s ls w) (x:Value) : CalI w0 g c { s with tv:=x } ls (w.setCell ⟨g,36,none⟩ x):=h.put 36 _ _ (by simp [calC]) rfl
theorem putInsured (h:CalI w0 g c s ls w) (x:Int) : CalI w0 g c { s with insured:=x } ls (w.setCell ⟨g,37,none⟩ (.int .i64 x)):=h.put 37 _ _ (by simp [calC]) rfl
theorem putLevies (h:CalI w0 g c s ls w) (x:Int) : CalI w0 g c { s with levies:=x } ls (w.setCell ⟨g,38,none⟩ (.int .i64 x)):=h.put 38 _ _ (by simp [calC]) rfl
theorem putRelief (h:CalI w0 g c s ls w) (x:Int) : CalI w0 g c { s with relief:=x } ls (w.setCell ⟨g,39,none⟩ (.int .i64 x)):=h.put 39 _ _ (by simp [calC]) rfl
theorem putIncome (h:CalI w0 g c s ls w) (x:Int) : CalI w0 g c { s with income:=x } ls (w.setCell ⟨g,40,none⟩ (.int .i64 x)):=h.put 40 _ _ (by simp [calC]) rfl
theorem putTax (h:CalI w0 g c s ls w) (x:Int) : CalI w0 g c { s with tax:=x } ls (w.setCell ⟨g,41,none⟩ (.int .i64 x)):=h.put 41 _ _ (by simp [calC]) rfl
theorem grow {v' : Value} {ls' : List LineT} {n:Nat} (h:CalI w0 g c s ls w) (ho:Own encL 3 30 w' w0.heap.size v' ls') (hg:w.grownBy w' s.lv.ownBlock) (hn:v'.ownBlock = s.lv.ownBlock ∨ v'.ownBlock = some (w.heap.size+n)) :
  CalI w0 g c { s with lv:=v' } ls' (w'.setCell ⟨g,32,none⟩ v')∧Mv g s.lv w v' (w'.setCell ⟨g,32,none⟩ v'):=by
 have hf:v'.ownBlock ≠ some g:=by
  rcases hn with e | e
  ·
   rw [e]; exact h.far
  ·
   rw [e]; intro e2; injection e2 with e2; have:=h.lt; omega
 have hB:=h.blk.grown hg (fun e=>h.far e.symm)
 have hb:Below w0.heap.size w0 w':=bel_only h.bel hg (fun q hq=>(h.row q hq).1)
 refine ⟨⟨?_,h.hg,bel_set hb h.hg 32 v',ho.setCell (p:=⟨g,32,none⟩) (fun q hq e=>hf (by rw [hq]; exact congrArg some e)) v',hf⟩,(Mv.app hg hn).trans (Mv.set 32 v')⟩
 have:=hB.set_ 32 v'
 rwa [show (calC c s).setIfInBounds 32 v' = calC c { s with lv:=v' } by simp [calC]] at this
theorem putB (h:CalI w0 g c s ls w) (b:BasesT) : CalI w0 g c { s with b:=b } ls (((((w.setCell ⟨g,27,none⟩ (.int .i64 b.g)).setCell ⟨g,28,none⟩ (.int .i64 b.c)).setCell ⟨g,29,none⟩ (.int .i64 b.t)).setCell ⟨g,30,none⟩ (.int .i64 b.i)).setCell ⟨g,31,none⟩ (.int .i64 b.a)):=by
 have h1:=h.put 27 (.int .i64 b.g) { s with b:={ s.b with g:=b.g } } (by simp [calC]) rfl
 have h2:=h1.put 28 (.int .i64 b.c) { s with b:={ s.b with g:=b.g,c:=b.c } } (by simp [calC]) rfl
 have h3:=h2.put 29 (.int .i64 b.t) { s with b:={ s.b with g:=b.g,c:=b.c,t:=b.t } } (by simp [calC]) rfl
 have h4:=h3.put 30 (.int .i64 b.i) { s with b:={ s.b with g:=b.g,c:=b.c,t:=b.t,i:=b.i } } (by simp [calC]) rfl
 exact h4.put 31 (.int .i64 b.a) { s with b:=b } (by simp [calC]) rfl
theorem mvB (b:BasesT) (v:Value) : Mv g v w v (((((w.setCell ⟨g,27,none⟩ (.int .i64 b.g)).setCell ⟨g,28,none⟩ (.int .i64 b.c)).setCell ⟨g,29,none⟩ (.int .i64 b.t)).setCell ⟨g,30,none⟩ (.int .i64 b.i)).setCell ⟨g,31,none⟩ (.int .i64 b.a)) :=
 ((((Mv.set 27 _).trans (Mv.set 28 _)).trans (Mv.set 29 _)).trans (Mv.set 30 _)).trans (Mv.set 31 _)
theorem year (h:CalI w0 g c s ls w) (hr:c.y.In w0) : c.y.In w:=hr.adv h.bel
end CalI
theorem wp_region_call {P:Program} {id:Nat} {Q:Exit→Act→World→Prop} {a aE : Act} {W:World} {L:List Oper} {ι:Type} (is js : List Nat) (ic:Nat) {oc:Oper} (f:FuncId) (args:Array Value) (mk:ι→Value) (aJ:ι→Act) (R:ι→World→Prop)
  (hm:P.follows .mixedOrders = true) (hs:Region.noSelect L.toArray = true) (hn:1+js.length+is.length = L.length)
  (hi:is.all (fun i=>decide (i < L.toArray.size)) = true) (hB:M3.lexSel .any L.toArray is (Array.replicate L.length false) = true) (hd:M3.dstsOk a.tmps.size (M3.opsAt L.toArray is) = true)
  (hj:js.all (fun i=>decide (i < L.toArray.size)) = true) (hBj:M3.lexSel .any L.toArray js ((M3.listSel is (Array.replicate L.length false)).setIfInBounds ic true) = true) (hdj:M3.dstsOk a.tmps.size (M3.opsAt L.toArray js) = true)
  (r1:Region.ready .any L.toArray (M3.listSel is (Array.replicate L.length false)) = [ic]) (r2:Region.ready .any L.toArray (M3.listSel js ((M3.listSel is (Array.replicate L.length false)).setIfInBounds ic true)) = [])
  (hoc:L.toArray[ic]? = some oc) (hgc:oc.guard = none)
  (H:∀ F:World→Prop,Stable F→Inhabited (BwC (fun w'=>Below W.heap.size W w') F)→wpQuiet P L.toArray (fun w'=>∃ p:BwC (fun w'=>Below W.heap.size W w') F,w' = p.w') (fun a'=>a' = aE) (M3.opsAt L.toArray is) a)
  (hsz:aE.tmps.size = a.tmps.size)
  (hrun:∀ w,(execOp aE.eval oc).run P w = .ok (.enter f args) w)
  (hR:∀ x,Stable (R x))
  (HC:∀ w',Below W.heap.size W w'→Calls P f args w' fun e w''=>∃ x,e = .returned (mk x)∧Below w'.heap.size w' w''∧R x w'')
  (J:∀ x,∀ F:World→Prop,Stable F→Inhabited (BwC (fun w'=>Below W.heap.size W w') F)→wpQuiet P L.toArray (fun w'=>∃ p:BwC (fun w'=>Below W.heap.size W w') F,w' = p.w') (fun a'=>a' = aJ x) (M3.opsAt L.toArray js) (aE.put oc.dst (mk x)))
  (M:∀ x w',Below W.heap.size W w'→R x w'→Q .normal (aJ x) w') : (Code.region id L.toArray true).wp P Q a W:=by
 refine M3.wp_region_sel (C:=fun w'=>Below W.heap.size W w') (stable_below _ _ (Nat.le_refl _)) (Below.refl _ _) is (1+js.length) hm hs hn hi hB hd H ?_
 intro Q0 hQ0
 rw [Nat.add_comm 1]
 refine M3.mix_step [ic] r1 (by simp) ?_
 intro w1 hC1 _ i hi'
 rw [List.mem_singleton] at hi'
 subst hi'
 refine M3.mix_call f args hoc (by simp [Region.wanted,hgc]) (hrun w1) ((HC w1 hC1).mono ?_)
 rintro e w2 ⟨x,rfl,hb2,hx⟩
 have hC2:Below W.heap.size W w2:=bel_adv hC1 hb2
 refine ⟨mk x,rfl,hC2,?_⟩
 have h1:=M3.wpMix_sel (Q:=Q0) (md:=.any) (C:=fun w'=>Below W.heap.size W w') (m:=0) (w:=w2) hs js _ (aE.put oc.dst (mk x)) hj hBj (M3.lexC_of (stable_below _ _ (Nat.le_refl _)) hC2 _ _ (by rw [M3.put_size,hsz]; exact hdj) (J x)) ?_
 ·
  rw [Nat.zero_add] at h1; exact h1
 ·
  refine M3.mix_end r2 ?_
  intro w3 hC3 hb3
  exact hQ0 _ _ (M x w3 hC3 (hR x _ _ hx hb3))
theorem wp_region_new {P:Program} {id:Nat} {Q:Exit→Act→World→Prop} {a aE : Act} {W:World} {L:List Oper} {ι:Type} (is js : List Nat) (ic:Nat) {oc:Oper} (mk:ι→Value) (aJ:ι→Act) (R:ι→World→Prop)
  (hm:P.follows .mixedOrders = true) (hs:Region.noSelect L.toArray = true) (hn:1+js.length+is.length = L.length)
  (hi:is.all (fun i=>decide (i < L.toArray.size)) = true) (hB:M3.lexSel .any L.toArray is (Array.replicate L.length false) = true) (hd:M3.dstsOk a.tmps.size (M3.opsAt L.toArray is) = true)
  (hj:js.all (fun i=>decide (i < L.toArray.size)) = true) (hBj:M3.lexSel .any L.toArray js ((M3.listSel is (Array.replicate L.length false)).setIfInBounds ic true) = true) (hdj:M3.dstsOk a.tmps.size (M3.opsAt L.toArray js) = true)
  (r1:Region.ready .any L.toArray (M3.listSel is (Array.replicate L.length false)) = [ic]) (r2:Region.ready .any L.toArray (M3.listSel js ((M3.listSel is (Array.replicate L.length false)).setIfInBounds ic true)) = [])
  (hoc:L.toArray[ic]? = some oc) (hgc:oc.guard = none)
  (H:∀ F:World→Prop,Stable F→Inhabited (BwC (fun w'=>Below W.heap.size W w') F)→wpQuiet P L.toArray (fun w'=>∃ p:BwC (fun w'=>Below W.heap.size W w') F,w' = p.w') (fun a'=>a' = aE) (M3.opsAt L.toArray is) a)
  (hsz:aE.tmps.size = a.tmps.size)
  (hR:∀ x,Stable (R x))
  (HC:∀ w',Below W.heap.size W w'→∃ x w'',(execOp aE.eval oc).run P w' = .ok (.value (mk x)) w''∧Below w'.heap.size w' w''∧R x w'')
  (J:∀ x,∀ F:World→Prop,Stable F→Inhabited (BwC (fun w'=>Below W.heap.size W w') F)→wpQuiet P L.toArray (fun w'=>∃ p:BwC (fun w'=>Below W.heap.size W w') F,w' = p.w') (fun a'=>a' = aJ x) (M3.opsAt L.toArray js) (aE.put oc.dst (mk x)))
  (M:∀ x w',Below W.heap.size W w'→R x w'→Q .normal (aJ x) w') : (Code.region id L.toArray true).wp P Q a W:=by
 refine M3.wp_region_sel (C:=fun w'=>Below W.heap.size W w') (stable_below _ _ (Nat.le_refl _)) (Below.refl _ _) is (1+js.length) hm hs hn hi hB hd H ?_
 intro Q0 hQ0
 rw [Nat.add_comm 1]
 refine M3.mix_step [ic] r1 (by simp) ?_
 intro w1 hC1 _ i hi'
 rw [List.mem_singleton] at hi'
 subst hi'
 obtain ⟨x,w2,hrun,hb2,hx⟩:=HC w1 hC1
 have hC2:Below W.heap.size W w2:=bel_adv hC1 hb2
 refine M3.mix_val (mk x) w2 hoc (by simp [Region.wanted,hgc]) hrun ⟨hC2,?_⟩
 have h1:=M3.wpMix_sel (Q:=Q0) (md:=.any) (C:=fun w'=>Below W.heap.size W w') (m:=0) (w:=w2) hs js _ (aE.put oc.dst (mk x)) hj hBj (M3.lexC_of (stable_below _ _ (Nat.le_refl _)) hC2 _ _ (by rw [M3.put_size,hsz]; exact hdj) (J x)) ?_
 ·
  rw [Nat.zero_add] at h1; exact h1
 ·
  refine M3.mix_end r2 ?_
  intro w3 hC3 hb3
  exact hQ0 _ _ (M x w3 hC3 (hR x _ _ hx hb3))
def StepPost (w0:World) (er:Int) (K:World→Prop) (e:Ending) (w' : World) : Prop:=e = .returned (.int .i64 er)∧Below w0.heap.size w0 w'∧(er = 0→K w')
end Go.Proofs.YtlhkojcmcmkmaaaGreat
namespace Go.Proofs.YtlhkojcmcmkmaaaGreat
open Go.RowKit
theorem wpList_append_one_at {P:Program} {α:Type} {enc:α→List Value} {k:Nat} {e:TypeId} {W:World} {base:Nat} {v:Value} {xs:List α}
  {ops:Array Oper} {rest:List Oper} {o:Oper} {a:Act} {Q:Exit→Act→World→Prop} {cs:Array Value} {H:Nat} (s x:Operand) (t:TypeId) (y:α) (c bytes:Nat) (z:Value)
  (hinfo:(P.info? e).map (fun i=>(i.zero,i.size,i.bytes)) = some (some z,k,bytes)) (ht:P.underlying t = some (.slice e))
  (hown:Own enc k e W base v xs) (hk:∀ x,(enc x).length = k) (hk0:0 < k) (hzs:z.cells.size = k) (h1:∀ u ∈ enc y,u.oneCell' = true)
  (hlen:xs.length < 4294967296) (hby:bytes≤1024) (hbase:base≤W.heap.size)
  (hgd:o.guard = none) (ho:o.op = .call { callee:=.builtin .append,args:=#[s,x],argTypes:=#[t,t] })
  (hs:a.eval s = v) (hx:a.eval x = .slice (some ⟨H,0,none⟩) 1 c) (hH:W.heap.size = H) (hcs:cs = (enc y).toArray)
  (h:∀ v' w',Own enc k e w' base v' (xs++[y])→W.grownBy w' v.ownBlock→(v'.ownBlock = v.ownBlock ∨ v'.ownBlock = some (W.heap.size+1))→wpList P ops Q rest (a.put o.dst v') w') :
  wpList P ops Q (o :: rest) a (W.alloc (.cells cs e)):=by
 subst hcs
 subst hH
 obtain ⟨i,hi,hz,hsz,hb⟩:=info_parts hinfo
 refine wpList_append_own_at _ hgd s x t ho base e i z k bytes ht hi hz hsz hb hzs hk0 v xs.length (xs.flatMap enc) hs (hown.alloc _) ⟨W.heap.size,0,none⟩ 1 c (enc y) hx (by rw [hk]; omega) ?_ h1
  (by unfold maxLen; omega) ?_ (by simp; omega) ?_
 ·
  intro j u hj
  have hadd:(⟨W.heap.size,0,none⟩ : Addr).add j = ⟨W.heap.size,j,none⟩:=by unfold Addr.add; split <;> simp_all
  rw [hadd,World.cell?_alloc_at _ _ _ _ rfl]
  simpa using hj
 ·
  have:(xs.length+1) * bytes≤4294967296 * 1024:=Nat.mul_le_mul (by omega) hby
  omega
 ·
  intro v' w' h2 h3 _ h5
  refine h v' w' ?_ ?_ (by rw [World.size_alloc] at h5; exact h5)
  ·
   unfold Own
   rw [List.length_append,List.flatMap_append]
   simpa using h2
  ·
   exact ⟨h3.os,h3.tape,h3.output,Nat.le_trans (by simp) h3.size,fun i hi hne=>(h3.block i (by simp; omega) hne).trans (Below.heap_alloc W _ i hi)⟩
end Go.Proofs.YtlhkojcmcmkmaaaGreat
namespace Go.Proofs.YtlhkojcmcmkmaaaGreat
open Go.RowKit
theorem Blk.rangeAt {w:World} {g:Nat} {t:TypeId} {cs:Array Value} (h:Blk w g t cs) : w.rangeAt g 0 cs.toList:=fun j v hv=>by
 rw [Nat.zero_add,h.cell]; simpa using hv
theorem Blk.there {w:World} {g:Nat} {t:TypeId} {cs:Array Value} (h:Blk w g t cs) : w.there g 0 cs.size:=fun j hj=>by
 rw [Nat.zero_add]
 exact ⟨by rw [h.cell,Array.getElem?_eq_getElem hj]; rfl,h.frozen j⟩
theorem setCells_grown (g:Nat) : ∀ (vs:List Value) (o:Nat) (w:World),w.grownBy (w.setCells g o vs) (some g)
 | [],_,w=>only_refl _ _
 | v :: r,o,w=>by
  rw [World.setCells]
  exact only_trans (only_setCell (p:=⟨g,o,none⟩) (only_refl _ _) (.inl rfl) v) (setCells_grown g r (o+1) _)
theorem setCells_blk {g:Nat} {t:TypeId} : ∀ (vs:List Value) (o:Nat) {w:World} {cs:Array Value},Blk w g t cs→∃ cs' : Array Value,cs'.size = cs.size∧Blk (w.setCells g o vs) g t cs'
 | [],_,_,cs,h=>⟨cs,rfl,h⟩
 | v :: r,o,_,cs,h=>by
  obtain ⟨cs',h1,h2⟩:=setCells_blk r (o+1) (h.set_ o v)
  exact ⟨cs',by simpa using h1,by rw [World.setCells]; exact h2⟩
theorem Blk.setAll {w:World} {g:Nat} {t:TypeId} {cs vs : Array Value} (h:Blk w g t cs) (hs:vs.size = cs.size) : Blk (w.setCells g 0 vs.toList) g t vs:=by
 obtain ⟨cs',h1,h2⟩:=setCells_blk vs.toList 0 h
 have h3:=World.rangeAt_setCells_same w g 0 vs.toList (by have:=h.there; rw [← hs] at this; simpa using this)
 have e:cs' = vs:=by
  apply Array.ext_getElem?
  intro i
  rcases Nat.lt_or_ge i vs.size with hi | hi
  ·
   have h4:=h3 i vs[i] (by simp [hi])
   rw [Nat.zero_add,h2.cell] at h4
   rw [h4,Array.getElem?_eq_getElem hi]
  ·
   rw [Array.getElem?_eq_none hi,Array.getElem?_eq_none (by omega)]
 rw [e] at h2
 exact h2
section
variable {P:Program}
theorem wpList_store_blk {ops:Array Oper} {rest:List Oper} {op:Oper} {a:Act} {w:World} {Q:Exit→Act→World→Prop} (hgd:op.guard = none) (ty:TypeId) (x y : Operand) (ho:op.op = .store ty x y) (hdst:op.dst = none)
  (g:Nat) {t:TypeId} {cs vs:Array Value} (hx:a.eval x = .pointer (some ⟨g,0,none⟩)) (hy:a.eval y = .agg vs) (hB:Blk w g t cs) (hs:vs.size = cs.size)
  (hi:(P.info? ty).map (·.size) = some vs.size) (h1:vs.toList.all (·.oneCell') = true)
  (h:∀ w',Blk w' g t vs→w.grownBy w' (some g)→wpList P ops Q rest a w') : wpList P ops Q (op :: rest) a w :=
 wpList_store_mid hgd ty x y ho g 0 vs hx hy (by have:=hB.there; rwa [← hs] at this) hi (by simpa using h1) (by rw [hdst]; exact h _ (hB.setAll hs) (setCells_grown _ _ _ _))
theorem wpList_load_blk {ops:Array Oper} {rest:List Oper} {op:Oper} {a:Act} {w:World} {Q:Exit→Act→World→Prop} (hgd:op.guard = none) (ty:TypeId) (x:Operand) (ho:op.op = .load ty x)
  (g:Nat) {t:TypeId} {cs:Array Value} {d:TypeDesc} (hx:a.eval x = .pointer (some ⟨g,0,none⟩)) (hB:Blk w g t cs)
  (hu:P.underlying ty = some d) (hd:d.isRow = true) (hi:(P.info? ty).map (·.size) = some cs.size)
  (h:wpList P ops Q rest (a.put op.dst (.agg cs)) w) : wpList P ops Q (op :: rest) a w :=
 wpList_load_mid hgd ty x ho g 0 hx cs.toList d hB.rangeAt hu hd (by simpa using hi) (by simpa using h)
theorem results_blk {fn:Func} {tmps:Array Value} {w:World} {s:Tmp} {ty t : TypeId} {g:Nat} {cs:Array Value} {d:TypeDesc} (hr:fn.results = #[.cell s ty]) (hs:tmps.getD s undef = .pointer (some ⟨g,0,none⟩)) (hB:Blk w g t cs)
  (hu:P.underlying ty = some d) (hd:d.isRow = true) (hi:(P.info? ty).map (·.size) = some cs.size) : (results fn tmps).run P w = .ok (.agg cs) w:=by
 have h:=run_loadVar_mid w g 0 ty cs.toList d hB.rangeAt hu hd (by simpa using hi)
 have hs':tmps[s]?.getD undef = .pointer (some ⟨g,0,none⟩):=by simpa using hs
 rw [Array.toArray_toList] at h
 simp [results,hr,hs',asAddr,h]
end
end Go.Proofs.YtlhkojcmcmkmaaaGreat
