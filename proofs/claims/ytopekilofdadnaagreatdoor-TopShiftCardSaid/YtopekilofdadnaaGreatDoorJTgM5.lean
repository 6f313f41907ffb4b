/- Joined texts: TgM5 TgN TgN2 TgH TgL. Conditions: as stated. -/
import Derived.Test.YtopekilofdadnaaGreatDoorJTvN
import Derived.Test.YtopekilofdadnaaGreatDoorJShEv
import Derived.Test.YtopekilofdadnaaGreatDoorJKeyK
import Derived.Test.YtopekilofdadnaaGreatDoorJTgV4
import Derived.Test.YtopekilofdadnaaGreatDoorJTgF
import Derived.Test.YtopekilofdadnaaGreatDoorJTgZ6
import Derived.Test.YtopekilofdadnaaGreatDoorJTgY
namespace Go.Proofs.YtopekilofdadnaaGreatDoor
open Go.RowKit Go.Maps Go.Sort Go.Shelf
section
set_option maxHeartbeats 8000000
set_option maxRecDepth 100000
theorem markM (z:ZoneM) (A:Option Addr) (c:Nat) (l:List PcT) (w:World) (hz:ZoneOk z.t) (hZ:z.In w) (hL:Lens w) (hS:SliceOf encPc 4 w w.heap.size A l) (hl:PcsOk l) :
  Calls Tryz.prog 28 #[z.val,.slice none 0 0,.slice none 0 0,.slice A l.length c] w fun e w'=>e = .returned (.tuple #[.slice none 0 0,.int .i64 0])∧Below w.heap.size w w':=by
 have HL:=Lib.hid hl
 obtain ⟨zo,ZA,zc,zl⟩:=z
 have HZO:=Lib.hid hz
 have HZI:Hid (SliceOf encCh 2 w w.heap.size ZA zl):=hZ
 have hb0:=below_new w (.cells #[.int .i64 zo,.slice ZA zl.length zc] 27)
 have hB:=Blk.new w 27 #[.int .i64 zo,.slice ZA zl.length zc]
 have HLN:=Lib.hid hL
 have HS:=Lib.hid hS
 clear hl hz hZ hL hS
 show Calls Tryz.prog 28 #[.agg #[.int .i64 zo,.slice ZA zl.length zc],.slice none 0 0,.slice none 0 0,.slice A l.length c] w _
 go_enter Tryz.func28,Tryz.ntmps28
 go_wp2_with fail
 refine (premValidX ⟨zo,ZA,zc,zl⟩ _ HZO.out (SliceOf.adv (show SliceOf encCh 2 w w.heap.size ZA zl from HZI.out) hb0)).mono ?_
 rintro e w1 ⟨rfl,hb1⟩
 have hbel1:=bel_adv hb0 hb1
 have hB1:=hB.adv hb1
 have HS1:=Lib.hid (HS.out.adv hbel1)
 clear hb1 hB
 go_wp2_with fail
 refine (checkM A c l _ HS1.out HL.out).mono ?_
 rintro e w2 ⟨rfl,hb2⟩
 have hbel2:=bel_adv hbel1 hb2
 have hB2:=hB1.adv hb2
 have HS2:=Lib.hid (HS1.out.adv hb2)
 have hbl2:=hB2.lt
 have z0:=hB2.cell 0
 have z1:=hB2.cell 1
 simp only [nqg,nqh,nqi] at z0 z1
 clear hb2 hB1 hB2 HS1 hbel1 hb0
 go_wp2_with fail
 refine (countM ⟨zo,ZA,zc,zl⟩ A c l _ HZO.out (SliceOf.adv (show SliceOf encCh 2 w w.heap.size ZA zl from HZI.out) hbel2) (HLN.out.adv hbel2) HS2.out HL.out).mono ?_
 rintro e w3 ⟨gc,rfl,hc3,hb3⟩
 have hbel3:=bel_adv hbel2 hb3
 clear hb3 z0 z1 hbel2 HS2
 go_wp2_with fail
 refine (keysC_in _ _).mono ?_
 rintro e w4 ⟨rfl,rfl⟩
 obtain ⟨f,hf1,hf2⟩:=hc3
 have hb4:=below_new w3 (.cells #[.map (some gc)] 175)
 go_wp2_with fail
 refine (sortedC _ hf1 (by omega)).mono ?_
 rintro e w5 ⟨v,ks,rfl,_,hmem,hown,hb5,hlen⟩
 have hbel5:=bel_adv (bel_adv hbel3 hb4) hb5
 have hM5:MapC keyI w5 gc 1000000 (.agg #[.int .i64 0,.int .i64 0,.int .i64 0,.int .i64 0,.int .i64 0,.int .i64 0,.int .i64 0,.int .i64 0,.int .i64 0,.int .i64 0,.int .i64 0,.int .i64 0,.int .i64 0,.int .i64 0,.int .i64 0,.int .i64 0]):=⟨f,(hf1.adv hb4).adv hb5,hf2⟩
 obtain ⟨KA,kc,hv,hSK,_,_⟩:=hown.form (fun _=>rfl)
 subst hv
 have HK:Hid (∀ x ∈ ks,(Lit.int .i64 x).wf = true):=fun x hx=>((hmem x).1 hx).1
 clear hf1 hf2 hb4 hb5 hown hmem hbel3
 go_wp2
 go_loopw [13,40] (fun r i wr=>∃ k:Nat,k≤ks.length∧r = .slice none 0 0∧i = .int .i64 k∧Hid (MapC keyI wr gc 1000000 (.agg #[.int .i64 0,.int .i64 0,.int .i64 0,.int .i64 0,.int .i64 0,.int .i64 0,.int .i64 0,.int .i64 0,.int .i64 0,.int .i64 0,.int .i64 0,.int .i64 0,.int .i64 0,.int .i64 0,.int .i64 0,.int .i64 0]))∧Below w5.heap.size w5 wr) (fun _ i _=>ks.length - (RowKit.intOf i).toNat)
 case atStart=>exact ⟨0,by omega,rfl,rfl,hM5,Below.refl _ _⟩
 case round =>
  clear hM5
  obtain ⟨k,hk,rfl,rfl,HM,hbr⟩:=hrel
  have hbs:=hbr.size
  by_cases hlt:k < ks.length
  ·
   have hw:=HK.out _ (List.getElem_mem hlt)
   obtain ⟨b,off,rfl,hq2,hc⟩:=(hSK.below hbr).at_ hlt
   have c0:=hc 0 _ rfl
   simp only [Nat.add_zero,Nat.mul_one] at c0
   have hqw:b < wr.heap.size:=by omega
   have hki:(k:Int) < (ks.length:Int):=by omega
   clear hc
   generalize ks[k] = x at c0 hw
   have HW:=Lib.hid hw
   have hMr:=HM.out
   have HM2:=Lib.hid (HM.out.alloc (.cells #[.int .i64 0,.int .i64 0,.int .i64 0,.int .i64 0,.int .i64 0,.int .i64 0,.int .i64 0,.int .i64 0,.int .i64 0,.int .i64 0,.int .i64 0,.int .i64 0,.int .i64 0,.int .i64 0,.int .i64 0,.int .i64 0] 178))
   have hbr2:=bel_alloc hbr (.cells #[.int .i64 0,.int .i64 0,.int .i64 0,.int .i64 0,.int .i64 0,.int .i64 0,.int .i64 0,.int .i64 0,.int .i64 0,.int .i64 0,.int .i64 0,.int .i64 0,.int .i64 0,.int .i64 0,.int .i64 0,.int .i64 0] 178)
   clear hw
   go_wp2_with (at_lookup; go_loud (refine wpList_getC (E:=keyI) (by rfl) _ _ 175 (by rfl) Tryz.underlying175 (zeroArrM _) hMr x HW.out (by rfl) (by rfl) ?_))
   clear hMr HM c0
   refine wp_loop_rounds 1 ?_
   rw [rounds_succ]
   go_wp2
   go_roundw
   case rel=>exact ⟨k+1,by omega,rfl,by go_num,HM2,hbr2⟩
   case measure=>simp [RowKit.intOf]; omega
  ·
   go_wp2
   go_ret2
   exact ⟨rfl,bel_adv hbel5 hbr⟩
end
end Go.Proofs.YtopekilofdadnaaGreatDoor
namespace Go.Proofs.YtopekilofdadnaaGreatDoor
open Go.RowKit Go.Maps Go.Sort Go.Shelf Go.WideMaps Go.WideElems Go.ChangeMaps
theorem lawT : KeyLaw Tryz.prog 189:=deep_law_laid (m:=3) (by kernel_rfl) (by omega) (of_decide_eq_true (by kernel_rfl)) (by kernel_rfl) (by kernel_rfl)
def NoneAt (w:World) (b:Nat) : Prop:=w.ownsMap Tryz.prog 189 heldE b 0 (.map [] : DataW Value)
theorem NoneAt.made (w:World) : NoneAt (w.alloc (.map #[] 0)) w.heap.size:=by
 have h:=World.ownsMap_made w Tryz.prog 189 heldE
 exact h
theorem NoneAt.adv {w w' : World} {b:Nat} (h:NoneAt w b) (hb:Below w.heap.size w w') : NoneAt w' b:=by
 have hbl:=World.ownsMap.lt h
 obtain ⟨es,clock,h1,h2⟩:=h
 exact ⟨es,clock,(hb.block b hbl).trans h1,h2⟩
theorem grownBy_putObj_n {W:World} (l:Nat) (o:Obj) : W.grownBy (W.putObj l o) (some l):=grownBy_putObj_a _ _ _
theorem wpIn_rangeFunc_none {F:Fence} {n:Nat} {P:Program} {g:Operand} {ps:Array Tmp} {assign body : Code} {Q:Exit→Act→World→Prop} {a:Act} {w:World}
  (hro:F.round = none) (h1:1≤n) {gf:Nat} {lb:Array Value} (hg:a.eval g = .func (.func gf) #[] lb) (hFg:F.fn gf) (eg:∀ args w,(callFunc gf args).run P w = .ok (.enter gf args) w)
  (hcall:∀ (l:Nat) (W:World),Below w.heap.size w W→CallsIn F (n - 1) P gf (#[.func (.yield l) #[] #[]]++lb) W fun e W'=>(∃ v,e = .returned v)∧W.grownBy W' none)
  (hdone:∀ (W:World),Below w.heap.size w W→W.heap[w.heap.size]? = some (.deferred (some []))→Q .normal { a with defers:={ target:=.collected w.heap.size,args:=#[] } :: a.defers } W) :
  (Code.rangeFunc g ps assign body).wpIn F n P Q a w:=by
 refine wpIn_rangeFunc ?_
 intro fn hfn
 rw [hro]
 obtain ⟨rec,hrec⟩ : ∃ rec:LoopState→Option Code→Loop,rec = fun st pe=>{ state:=st,pending:=pe,fn,tmps:=a.tmps,params:=ps,assign,body,defers:=w.heap.size }:=⟨_,rfl⟩
 obtain ⟨W1,hW1⟩ : ∃ W1,(w.alloc (.deferred (some []))).alloc (.loop (rec .ready none)) = W1:=⟨_,rfl⟩
 have hL1:W1.heap[w.heap.size+1]? = some (.loop (rec .ready none)):=by
  rw [← hW1]; have:=World.alloc_heap_new (w.alloc (.deferred (some []))) (.loop (rec .ready none)); rwa [World.size_alloc] at this
 have hK1:W1.heap[w.heap.size]? = some (.deferred (some [])):=by
  rw [← hW1]; exact (Below.heap_alloc _ _ _ (by simp)).trans (World.alloc_heap_new w _)
 have hb1:Below w.heap.size w W1:=by
  rw [← hW1]; exact (((Below.refl _ w).alloc (Nat.le_refl _) _).alloc (by simp) _)
 refine ⟨w.heap.size+1,[{ target:=.collected w.heap.size,args:=#[] }],W1,{ target:=.fn (.func gf) lb,args:=#[.func (.yield (w.heap.size+1)) #[] #[]] },W1,gf,
  #[.func (.yield (w.heap.size+1)) #[] #[]]++lb,W1,?_,?_,?_,?_,fun _=>h1,?_⟩
 ·
  rw [← hW1,hrec]; exact run_enterLoop_outer _ _ _ _ _
 ·
  simp only [resolve,hg]
  simp [go_sem]
 ·
  intro f' hf'; simp [Target.leads] at hf'; subst hf'; exact hFg
 ·
  simp [invoke,go_sem,eg]
 ·
  refine (hcall (w.heap.size+1) W1 hb1).mono ?_
  rintro e W2 ⟨⟨v,rfl⟩,hg2⟩
  have hl2:W2.heap[w.heap.size+1]? = some (.loop (rec .ready none)):=(hg2.block _ (Array.getElem?_eq_some_iff.1 hL1).1 (by simp)).trans hL1
  have hk2:W2.heap[w.heap.size]? = some (.deferred (some [])):=(hg2.block _ (Array.getElem?_eq_some_iff.1 hK1).1 (by simp)).trans hK1
  have hb2:Below w.heap.size w W2:=hb1.grown hg2 hb1.size (fun k e=>by cases e)
  have hend:=run_endLoop (P:=P) hl2 (by rw [hrec]; simp)
  rw [show (rec LoopState.ready none).pending = none from by rw [hrec]] at hend
  refine ⟨none,_,hend,?_⟩
  refine hdone _ (hb2.grown (grownBy_putObj_n _ _) hb2.size (fun k e=>by cases e; omega)) ((World.putObj_heap_other (by omega)).trans hk2)
section
set_option maxHeartbeats 4000000
set_option maxRecDepth 100000
theorem iterT (l Bm b : Nat) (W:World) (hm:W.cell? ⟨Bm,0,none⟩ = some (.map (some b))) (h:NoneAt W b) :
  Calls Tryz.prog 111 #[.func (.yield l) #[] #[],.pointer (some ⟨Bm,0,none⟩)] W fun e W'=>e = .returned (.tuple #[])∧W.grownBy W' none:=by
 have hml:Bm < W.heap.size:=by
  by_cases hl:Bm < W.heap.size
  ·
   exact hl
  ·
   rw [World.cell?] at hm
   simp [Array.getElem?_eq_none (Nat.le_of_not_lt hl)] at hm
 go_enter Tryz.func111,Tryz.ntmps111
 go_wp2_with (at_range; refine wpList_range_own _ (by rfl) _ 187 (by rfl) 189 3 (Keyed.of_law lawT) Tryz.underlying187 heldE b 0 (.map [] : DataW Value) (by rfl) h ?_; intro w2 hrg0 hgr0 hsz2)
 go_frame
 refine wp_loop_rounds 1 ?_
 rw [rounds_succ]
 go_wp2_with (at_next; refine wpList_next_ranges _ (by rfl) _ (by rfl) 189 (Keyed.of_law lawT) heldE id id (fun key _ _=>⟨key,rfl⟩) (fun v _ _=>⟨v,rfl⟩) b W.heap.size 0 (.map [] : DataW Value) _ _ (by rfl) hrg0 ?_ ?_)
 all_goals intros
 all_goals (first | (go_wp2; go_end0; exact ⟨rfl,hgr0⟩) | (rename_i hh _ _ _ _ _ _ _; cases hh) | trace_state)
theorem appendT (Bm b : Nat) (w:World) (hm:w.cell? ⟨Bm,0,none⟩ = some (.map (some b))) (h:NoneAt w b) (hB:Bm < w.heap.size) :
  CallsIn Fence.wide 5 Tryz.prog 151 #[.slice none 0 0,.func (.func 111) #[] #[.pointer (some ⟨Bm,0,none⟩)]] w fun e w'=>e = .returned (.slice none 0 0)∧Below w.heap.size w w':=by
 refine callsIn_of_wp_marks Tryz.func151 rfl trivial ?_ rfl
 simp only [Tryz.ntmps151,List.size_toArray,List.length_cons,List.length_nil,Nat.reduceAdd,Nat.reduceSub,Array.replicate_succ,Array.replicate_zero,List.push_toArray,List.append_toArray,List.nil_append,List.cons_append]
 have hb0:=below_new w (.cells #[.slice none 0 0] 190)
 have hB0:=Blk.new w 190 #[.slice none 0 0]
 gi_wp2
 refine wpIn_rangeFunc_none rfl (by omega) (gf:=111) (by rfl) trivial (enters_of Tryz.func111 (by kernel_rfl) rfl) (fun l W hbW=>?_) (fun W hbW hK=>?_)
 ·
  have hbel:=bel_adv hb0 hbW
  refine callsIn_wide.2 ((iterT l Bm b W ((hbel.cell (p:=⟨Bm,0,none⟩) hB).trans hm) (h.adv hbel)).mono ?_)
  rintro e W' ⟨rfl,hg⟩
  exact ⟨⟨_,rfl⟩,hg⟩
 ·
  have hB2:=hB0.adv hbW
  have hl2:=hB2.lt
  have hbel:=bel_adv hb0 hbW
  have x0:=hB2.cell 0
  simp only [nqg,nqh] at x0
  gi_wp2
  refine ⟨by simp,.inl ⟨_,_,rfl,run_takeDeferred hK,?_⟩⟩
  exact ⟨_,results_tmp rfl _ _ _,rfl,hbel.grown (grownBy_putObj_n _ _) hbel.size (fun k e=>by cases e; simp)⟩
theorem collectT (Bm b : Nat) (w:World) (hm:w.cell? ⟨Bm,0,none⟩ = some (.map (some b))) (h:NoneAt w b) (hB:Bm < w.heap.size) :
  Calls Tryz.prog 109 #[.func (.func 111) #[] #[.pointer (some ⟨Bm,0,none⟩)]] w fun e w'=>e = .returned (.slice none 0 0)∧Below w.heap.size w w':=by
 go_enter Tryz.func109,Tryz.ntmps109
 go_wp2_with fail
 refine (callsIn_wide.1 (appendT Bm b w hm h hB)).mono ?_
 rintro e w1 ⟨rfl,hb1⟩
 go_wp2
 go_ret
 exact ⟨rfl,hb1⟩
theorem sortedT (Bm b : Nat) (fv:Value) (w:World) (hm:w.cell? ⟨Bm,0,none⟩ = some (.map (some b))) (h:NoneAt w b) (hB:Bm < w.heap.size) :
  Calls Tryz.prog 70 #[.func (.func 111) #[] #[.pointer (some ⟨Bm,0,none⟩)],fv] w fun e w'=>e = .returned (.slice none 0 0)∧Below w.heap.size w w':=by
 go_enter Tryz.func70,Tryz.ntmps70
 go_wp2_with fail
 refine (collectT Bm b w hm h hB).mono ?_
 rintro e w1 ⟨rfl,hb1⟩
 go_wp2_with fail
 refine Calls.mono (AnyF.slices_SortFunc_none { Tryz.sortKy with } none 0 fv _) ?_
 rintro e w2 ⟨rfl,rfl⟩
 go_wp2
 go_ret
 exact ⟨rfl,hb1⟩
theorem keysT_in (b:Nat) (W:World) : Calls Tryz.prog 71 #[.map (some b)] W fun e w'=>e = .returned (.func (.func 111) #[] #[.pointer (some ⟨W.heap.size,0,none⟩)])∧w' = W.alloc (.cells #[.map (some b)] 187):=by
 go_enter Tryz.func71,Tryz.ntmps71
 go_wp2
 go_ret
 exact ⟨rfl,rfl⟩
end
end Go.Proofs.YtopekilofdadnaaGreatDoor
namespace Go.Proofs.YtopekilofdadnaaGreatDoor
open Go.RowKit Go.Maps Go.Sort Go.Shelf
section
set_option maxHeartbeats 1000000
set_option maxRecDepth 100000
theorem addAbsN (p:Value) (B:Option Addr) (n d : Nat) (emp:Int) (w:World) : Calls Tryz.prog 31 #[p,.slice B n d,.slice none 0 0,.int .i64 emp] w fun e w'=>e = .returned (.tuple #[])∧Below w.heap.size w w':=by
 have hmm:=@run_makeMap Tryz.prog
 have hN0:=NoneAt.made w
 have hb0:=below_new w (.map #[] 0)
 go_enter Tryz.func31,Tryz.ntmps31
 go_wp2_with fail
 refine wp_loop_rounds 1 ?_
 rw [rounds_succ]
 go_wp2_with fail
 refine (keysT_in _ _).mono ?_
 rintro e w1 ⟨rfl,rfl⟩
 have hb1:=below_new (w.alloc (.map #[] 0)) (.cells #[.map (some w.heap.size)] 187)
 have hB1:=Blk.new (w.alloc (.map #[] 0)) 187 #[.map (some w.heap.size)]
 have hc1:=hB1.cell 0
 have hl1:=hB1.lt
 rw [World.size_alloc] at hc1 hl1
 simp only [List.getElem?_toArray,List.getElem?_cons_zero] at hc1
 have hbel1:=bel_adv hb0 hb1
 have hN1:=hN0.adv hb1
 clear hB1 hb0 hb1 hN0 hmm
 generalize (w.alloc (.map #[] 0)).alloc (.cells #[.map (some w.heap.size)] 187) = w1 at hc1 hl1 hbel1 hN1 ⊢
 go_wp2_with fail
 refine (sortedT (w.heap.size+1) w.heap.size (.func (.func 72) #[] #[]) w1 hc1 hN1 hl1).mono ?_
 rintro e w2 ⟨rfl,hb2⟩
 have hbel2:=bel_adv hbel1 hb2
 go_wp2_with fail
 refine wp_loop_rounds 1 ?_
 rw [rounds_succ]
 go_wp2
 go_end0
 exact ⟨rfl,hbel2⟩
end
end Go.Proofs.YtopekilofdadnaaGreatDoor
namespace Go.Proofs.YtopekilofdadnaaGreatDoor
open Go.RowKit Go.Sort Go.Shelf
def dutN (r:RulM) (plan:List ShiftT) (l:List EvT) (emp:Int) : List DutyT:=assignN r.z.t plan (plan.map (spOf r.z.t)) r.ea r.la (pairN r.lo (effN l emp)).1
def anN (r:RulM) (l:List EvT) (emp:Int) : List AnomT:=(pairN r.lo (effN l emp)).2
def pcN (r:RulM) (plan:List ShiftT) (l:List EvT) (emp:Int) : List PcT:=divN r.b.t (sortedN (worksN (dutN r plan l emp)))
structure EvIn (w:World) (r:RulM) (B:Option Addr) (plan:List ShiftT) (A:Option Addr) (l:List EvT) (emp:Int) : Prop where
 rul:RulIn w r
 pS:SliceOf encSf 3 w w.heap.size B plan
 pO:∀ s ∈ plan,ShiftOk s
 pL:plan.length≤1024
 eS:SliceOf encEv 7 w w.heap.size A l
 eO:EvsOk l
 br:∀ p ∈ (pairN r.lo (effN l emp)).1,p.br.length≤16
 d:spErr r.z.t none plan = 0→(∀ x ∈ dutN r plan l emp,DutyPl r.z.t plan r.sn x)∧∀ s ∈ plan,begN r.z.t s+s.min≤120968640
 p:spErr r.z.t none plan = 0→SpansOk (worksN (dutN r plan l emp))∧PiecesOk (pcN r plan l emp)∧PcsOk (pcN r plan l emp)
 an:(∀ x ∈ anN r l emp,0≤x.time∧x.time≤120968639)∧(anN r l emp).length≤100000
def EvalPost (z:ZoneT) (pcs:List PcT) (an:List AnomT) (a b err : Int) (w:World) (e:Ending) (w' : World) : Prop :=
 Below w.heap.size w w'∧((err ≠ 0∧e = .returned (.tuple #[.slice none 0 0,.int .i64 err])) ∨
  (err = 0∧∃ A c rows,e = .returned (.tuple #[.slice A (List.length rows) c,.int .i64 0])∧rows.map RowM.t = resN z pcs an a b∧SliceOf encRo 3 w' w'.heap.size A rows∧∀ x ∈ rows,x.In w'))
section
set_option maxHeartbeats 8000000
set_option maxRecDepth 100000
theorem evalH (r:RulM) (B:Option Addr) (d:Nat) (plan:List ShiftT) (A:Option Addr) (c:Nat) (l:List EvT) (emp a b : Int) (w:World) (h:EvIn w r B plan A l emp) (hL:Lens w) (ha:0≤a) (hab:a≤b) (hb:b≤84005) :
  Calls Tryz.prog 12 #[r.val,.slice B plan.length d,.slice A l.length c,.slice none 0 0,.int .i64 emp,.int .i64 a,.int .i64 b] w (EvalPost r.z.t (pcN r plan l emp) (anN r l emp) a b (spErr r.z.t none plan) w):=by
 have HH:=Lib.hid h
 have HL:=Lib.hid hL
 obtain ⟨⟨zo,ZA,zc,zl⟩,lo,ea,la,sn,⟨bn,bA,bc,bl,bB,bd,bw⟩⟩:=r
 have HZO:Hid (ZoneOk (ZoneM.mk zo ZA zc zl).t):=h.rul.zo
 have hB0:=Blk.new w 52 (rulV zo ZA zl.length zc lo ea la sn bn bA bl.length bc bB bw.length bd)
 have hbel0:=below_new w (.cells (rulV zo ZA zl.length zc lo ea la sn bn bA bl.length bc bB bw.length bd) 52)
 have hPC:∃ pcs,pcN ⟨⟨zo,ZA,zc,zl⟩,lo,ea,la,sn,⟨bn,bA,bc,bl,bB,bd,bw⟩⟩ plan l emp = pcs:=⟨_,rfl⟩
 obtain ⟨pcs,hPC⟩:=hPC
 obtain ⟨an,hAN⟩ : ∃ an,anN ⟨⟨zo,ZA,zc,zl⟩,lo,ea,la,sn,⟨bn,bA,bc,bl,bB,bd,bw⟩⟩ l emp = an:=⟨_,rfl⟩
 obtain ⟨se,hSE⟩ : ∃ se,spErr (ZoneM.mk zo ZA zc zl).t none plan = se:=⟨_,rfl⟩
 show Calls Tryz.prog 12 #[.agg (rulV zo ZA zl.length zc lo ea la sn bn bA bl.length bc bB bw.length bd),.slice B plan.length d,.slice A l.length c,.slice none 0 0,.int .i64 emp,.int .i64 a,.int .i64 b] w (EvalPost (ZoneM.mk zo ZA zc zl).t _ _ a b (spErr (ZoneM.mk zo ZA zc zl).t none plan) w)
 rw [hPC,hAN,hSE]
 have hp:=h.p
 have hd:=h.d
 have han:=h.an
 have HBR:=Lib.hid h.br
 rw [hPC] at hp
 rw [hAN] at han
 have HP:=Lib.hid hp
 have HD:=Lib.hid hd
 have HAN:=Lib.hid han
 have HPC:=Lib.hid hPC
 have HANE:=Lib.hid hAN
 have HSE:=Lib.hid hSE
 clear h hL hp hd han hPC hAN hSE
 simp only [rulV] at hB0 hbel0 ⊢
 generalize hWW:w.alloc (.cells #[.int .i64 zo,.slice ZA zl.length zc,.int .i64 lo,.int .i64 ea,.int .i64 la,.int .i64 0,.int .i64 0,.int .i64 sn,.slice none 0 0,.string bn,.slice bA bl.length bc,.slice bB bw.length bd,.slice none 0 0,.slice none 0 0] 52) = W at hB0 hbel0
 have HWW:=Lib.hid hWW
 clear hWW
 go_enter Tryz.func12,Tryz.ntmps12
 go_wp2_with fail
 rw [HWW.out]
 refine (worksT ⟨⟨zo,ZA,zc,zl⟩,lo,ea,la,sn,⟨bn,bA,bc,bl,bB,bd,bw⟩⟩ B d plan A c l emp _ (HH.out.rul.adv hbel0) (HH.out.pS.adv hbel0) HH.out.pO HH.out.pL (HH.out.eS.adv hbel0) HH.out.eO HBR.out HD.out).mono ?_
 rintro e w1 ⟨hb1,hcase⟩
 have hB1:=hB0.adv hb1
 have hbel1:=bel_adv hbel0 hb1
 clear hb1 hB0 hbel0 HWW
 have e1:spErr (RulM.mk ⟨zo,ZA,zc,zl⟩ lo ea la sn ⟨bn,bA,bc,bl,bB,bd,bw⟩).z.t none plan = se:=HSE.out
 have e2:(pairN (RulM.mk ⟨zo,ZA,zc,zl⟩ lo ea la sn ⟨bn,bA,bc,bl,bB,bd,bw⟩).lo (effN l emp)).2 = an:=HANE.out
 rw [e1,e2] at hcase
 clear e1 e2
 rcases hcase with ⟨hne,rfl⟩ | ⟨h0,WA,wc,Ws,AA,ac,rfl,hWt,hWI,hAn⟩
 ·
  have hne1:(se != 0) = true:=by simpa using hne
  have hne2:(se == 0) = false:=by simpa using hne
  have HNE:=Lib.hid hne
  clear hne
  go_wp2
  go_ret2
  exact ⟨hbel1,.inl ⟨HNE.out,rfl⟩⟩
 ·
  subst h0
  have n1:decide (a < 0) = false:=by simp; omega
  have n2:decide (84005 < a) = false:=by simp; omega
  have n3:decide (b < 0) = false:=by simp; omega
  have n4:decide (84005 < b) = false:=by simp; omega
  have n5:¬ b < a:=by omega
  have HP:=Lib.hid (HP.out HSE.out)
  have HWI:=Lib.hid hWI
  have HAnS:=Lib.hid hAn
  have HWT:=Lib.hid hWt
  have hbl1:=hB1.lt
  have HB1:=Lib.hid hB1
  have a0:=hB1.cell 0
  have a1:=hB1.cell 1
  have a2:=hB1.cell 2
  have a3:=hB1.cell 3
  have a4:=hB1.cell 4
  have a5:=hB1.cell 5
  have a6:=hB1.cell 6
  have a7:=hB1.cell 7
  have a8:=hB1.cell 8
  have a9:=hB1.cell 9
  have a10:=hB1.cell 10
  have a11:=hB1.cell 11
  have a12:=hB1.cell 12
  have a13:=hB1.cell 13
  simp only [nqg,nqh,nqi] at a0 a1 a2 a3 a4 a5 a6 a7 a8 a9 a10 a11 a12 a13
  clear hWI hAn hWt hB1
  go_wp2_with fail
  refine wp_loop_rounds 1 ?_
  rw [rounds_succ]
  go_wp2_with fail
  refine (divideO ⟨bn,bA,bc,bl,bB,bd,bw⟩ WA wc Ws _ (HH.out.rul.b.adv hbel1) HWI.out (by rw [HWT.out]; exact HP.out.1)).mono ?_
  rintro e w2 ⟨PA,pc,rfl,hPS,_,hb2,hcap⟩
  have hDV:divN (BandsM.t ⟨bn,bA,bc,bl,bB,bd,bw⟩) (sortedN (Ws.map WorkM.t)) = pcs:=by rw [HWT.out]; exact HPC.out
  rw [hDV] at hPS hcap ⊢
  clear hDV
  have HPS:=Lib.hid hPS
  have hB2:=HB1.out.adv hb2
  have hbel2:=bel_adv hbel1 hb2
  have HAn2:=Lib.hid (HAnS.out.adv hb2)
  have HB2:=Lib.hid hB2
  have hbl2:=hB2.lt
  clear a0 a1 a2 a3 a4 a5 a6 a7 a8 a9 a10 a11 a12 a13 hb2 hPS HAnS HWI
  have a0:=hB2.cell 0
  have a1:=hB2.cell 1
  have a2:=hB2.cell 2
  have a3:=hB2.cell 3
  have a4:=hB2.cell 4
  have a5:=hB2.cell 5
  have a6:=hB2.cell 6
  have a7:=hB2.cell 7
  have a8:=hB2.cell 8
  have a9:=hB2.cell 9
  have a10:=hB2.cell 10
  have a11:=hB2.cell 11
  have a12:=hB2.cell 12
  have a13:=hB2.cell 13
  simp only [nqg,nqh,nqi] at a0 a1 a2 a3 a4 a5 a6 a7 a8 a9 a10 a11 a12 a13
  clear hB2
  go_wp2_with fail
  refine (markM ⟨zo,ZA,zc,zl⟩ PA pc pcs _ HZO.out (HH.out.rul.z.adv hbel2) (HL.out.adv hbel2) HPS.out HP.out.2.2).mono ?_
  rintro e w3 ⟨rfl,hb3⟩
  have hB3:=HB2.out.adv hb3
  have hbel3:=bel_adv hbel2 hb3
  have HAn3:=Lib.hid (HAn2.out.adv hb3)
  have HPS3:=Lib.hid (HPS.out.adv hb3)
  have hmm:=@run_makeMap Tryz.prog
  have hm0:=MapAt.made keyI w3
  have hbm:=below_new w3 (.map #[] 0)
  have hbs:=below_new (w3.alloc (.map #[] 0)) (.cells #[.int .i64 a,.int .i64 b,.map (some w3.heap.size)] 108)
  have hBs:=Blk.new (w3.alloc (.map #[] 0)) 108 #[.int .i64 a,.int .i64 b,.map (some w3.heap.size)]
  rw [World.size_alloc] at hBs
  have hSH:SheetAt ((w3.alloc (.map #[] 0)).alloc (.cells #[.int .i64 a,.int .i64 b,.map (some w3.heap.size)] 108)) w3.heap.size (w3.heap.size+1) w3.heap.size 0 a b (fun _=>none) :=
   ⟨hBs,(hm0.adv hbs).congr (fun _ _=>rfl),fun x y h=>(by cases h),fun x y h=>(by cases h),fun x y h=>(by cases h),fun x x' y y' _ h=>(by cases h),fun x x' y y' _ h=>(by cases h),Nat.le_refl _,by omega,fun x y h=>(by cases h)⟩
  have HSH:=Lib.hid hSH
  have hbel4:=bel_adv hbm hbs
  have HB4:=Lib.hid (hB3.adv hbel4)
  have HAn4:=Lib.hid (HAn3.out.below hbel4)
  have hbl3:=hB3.lt
  have HPS4:=Lib.hid (HPS3.out.below hbel4)
  have hbelw4:=bel_adv hbel3 hbel4
  have hsz4:((w3.alloc (.map #[] 0)).alloc (.cells #[.int .i64 a,.int .i64 b,.map (some w3.heap.size)] 108)).heap.size = w3.heap.size+2:=by simp
  clear a0 a1 a2 a3 a4 a5 a6 a7 a8 a9 a10 a11 a12 a13 hb3 hB3 HB2 hm0 hbm hbs hBs hSH hbel3 HAn2 HPS hbel2
  go_wp2_with fail
  generalize (w3.alloc (.map #[] 0)).alloc (.cells #[.int .i64 a,.int .i64 b,.map (some w3.heap.size)] 108) = w4 at HSH HB4 HAn4 HPS4 hbelw4 hbel4 hsz4 ⊢
  refine (addBandsZ w3.heap.size (w3.heap.size+1) w3.heap.size a b PA pc pcs w4 HSH.out (by omega) HPS4.out HP.out.2.1 hcap (fun p hp=>(HP.out.2.2.ok p hp).2)).mono ?_
  rintro e w5 ⟨rfl,hb5,rows5,N5,hsh5,hN5,hpl5⟩
  have HSH5:=Lib.hid hsh5
  have HPL5:=Lib.hid hpl5
  have HB5:=Lib.hid hb5
  clear hsh5 hpl5 hmm
  go_wp2_with fail
  refine (addPremZ _ _).mono ?_
  rintro e w6 ⟨rfl,rfl⟩
  go_wp2_with fail
  refine (addAbsN _ B plan.length d emp _).mono ?_
  rintro e w6 ⟨rfl,hb6⟩
  have HSH6:=Lib.hid (HSH5.out.adv hb6)
  have hbase6:Below w3.heap.size w4 w6:=HB5.out.trans (hb6.mono (by have:=HB5.out.size; omega))
  have hbw6:=hbelw4.trans (hbase6.mono (by have:=hbelw4.size; omega))
  have hB6:=HB4.out.below hbase6 hbl3
  have HAn6:=Lib.hid (HAn4.out.below hbase6)
  have hs6:=hbase6.size
  have hl6:=hB6.lt
  have HBW6:=Lib.hid hbw6
  have a0:=hB6.cell 0
  have a1:=hB6.cell 1
  have a2:=hB6.cell 2
  have a3:=hB6.cell 3
  have a4:=hB6.cell 4
  have a5:=hB6.cell 5
  have a6:=hB6.cell 6
  have a7:=hB6.cell 7
  have a8:=hB6.cell 8
  have a9:=hB6.cell 9
  have a10:=hB6.cell 10
  have a11:=hB6.cell 11
  have a12:=hB6.cell 12
  have a13:=hB6.cell 13
  simp only [nqg,nqh,nqi] at a0 a1 a2 a3 a4 a5 a6 a7 a8 a9 a10 a11 a12 a13
  have hA0:∀ d,0≤d∧d≤84005→((plainR rows5 d).getD ([],[])).2.length≤1000:=fun d hd=>by
   rw [HPL5.out d hd]
   split <;> simp
  have HA0:=Lib.hid hA0
  clear hb6 hB6 hA0 hbw6 hbase6 hbelw4 hbel4
  go_wp2_with fail
  refine (addAnomZ w3.heap.size (w3.heap.size+1) w3.heap.size N5 a b rows5 ⟨zo,ZA,zc,zl⟩ AA ac an w6 HSH6.out (by omega) HZO.out ((HH.out.rul.z.below HBW6.out).more (by omega)) HAn6.out HAN.out.1 HAN.out.2 hN5 HA0.out).mono ?_
  rintro e w7 ⟨rfl,hb7,rows7,N7,hsh7,hN7,hpl7⟩
  have hpl:∀ d,0≤d∧d≤84005→plainR rows7 d = plusAn (ZoneM.mk zo ZA zc zl).t an a b (evF pcs a b) d:=fun d hd=>by
   rw [hpl7 d hd]
   unfold plusAn
   rw [HPL5.out d hd]
   rfl
  have hanl:=HAN.out.2
  have HBW7:=Lib.hid (HBW6.out.trans (hb7.mono (by omega)))
  have hBs7:=hsh7.blk
  have hbsl:=hBs7.lt
  have hN7':N7≤4294967296:=by omega
  have s0:=hBs7.cell 0
  have s1:=hBs7.cell 1
  have s2:=hBs7.cell 2
  simp only [nqg,nqh,nqi] at s0 s1 s2
  have HSH7:=Lib.hid hsh7
  have HPL:=Lib.hid hpl
  clear hb7 hpl7 hpl hsh7 hBs7 a0 a1 a2 a3 a4 a5 a6 a7 a8 a9 a10 a11 a12 a13 HSH6 HSH5 HPL5 HAn6
  go_wp2_with fail
  refine (keysR_in _ _).mono ?_
  rintro e w8 ⟨rfl,rfl⟩
  have hb8:=below_new w7 (.cells #[.map (some w3.heap.size)] 106)
  go_wp2_with fail
  refine (sortedR w7 HSH7.out.map hN7').mono ?_
  rintro e w9 ⟨v,ks,rfl,hs,hm,hown,hb9,hlen⟩
  have hb79:=bel_adv hb8 hb9
  have HSH9:=Lib.hid (HSH7.out.adv hb79)
  have HBW9:=Lib.hid (bel_adv HBW7.out hb79)
  obtain ⟨hk1,hk2⟩:=keys_res hs hm HSH7.out.rng HSH7.out.day ha hb HPL.out
  have HK1:=Lib.hid hk1
  have HK2:=Lib.hid hk2
  have HWFK:Hid (∀ x ∈ ks,(Lit.int .i64 x).wf = true):=fun x hx=>((hm x).1 hx).1
  obtain ⟨KA,kc,hv,hSK,_,_⟩:=hown.form (fun _=>rfl)
  subst hv
  have HSK:=Lib.hid hSK
  have hkl:ks.length≤4294967295:=by
   have:=hlen
   omega
  clear hs hm hown hb9 hlen hk1 hk2 hSK hb8 hb79 s0 s1 s2 HSH7
  go_wp2
  go_loopw [24,114] (fun r i wr=>∃ (k:Nat) (V:Value) (L:List RowM),V = r∧k≤ks.length∧i = .int .i64 k∧Own encRo 3 62 wr w9.heap.size V L∧L.length = k∧Hid (L.map RowM.t = (ks.take k).map fun d=>⟨d,totN pcs d,an.filter fun x=>decide (dayN (ZoneM.mk zo ZA zc zl).t x.time = d)⟩)∧Hid (∀ x ∈ L,∃ d,rows7 d = some x)∧Below w9.heap.size w9 wr) (fun _ i _=>ks.length - (RowKit.intOf i).toNat)
  case atStart=>exact ⟨0,_,[],rfl,by omega,rfl,Own.nil_ _ _,rfl,rfl,fun x hx=>(by cases hx),Below.refl _ _⟩
  case round =>
   obtain ⟨k,V,L,rfl,hk,rfl,hor,hLl,hE,hRW,hbr⟩:=hrel
   have hbs:=hbr.size
   have HSHr:=Lib.hid (HSH9.out.adv hbr)
   by_cases hlt:k < ks.length
   ·
    have hw:=HWFK.out _ (List.getElem_mem hlt)
    obtain ⟨y,hy1,hy2⟩:=HK2.out _ (List.getElem_mem hlt)
    have HT:Hid (ks.take (k+1) = ks.take k++[ks[k]]):=List.take_succ_eq_append_getElem hlt
    obtain ⟨q,off,rfl,hq2,hc⟩:=(HSK.out.below hbr).at_ hlt
    have c0:=hc 0 _ rfl
    simp only [Nat.add_zero,Nat.mul_one] at c0
    have hqw:q < wr.heap.size:=by omega
    have hki:(k:Int) < (ks.length:Int):=by omega
    have hBr:=HSHr.out.blk
    have hblr:=hBr.lt
    have hMr:=HSHr.out.map
    have s0:=hBr.cell 0
    have s1:=hBr.cell 1
    have s2:=hBr.cell 2
    simp only [nqg,nqh,nqi] at s0 s1 s2
    clear hc hBr
    generalize ks[k] = x at c0 hw hy1 hy2 HT
    obtain ⟨yd,yA,yc,yt,yB,ye,ya⟩:=y
    have HV:Hid (((rows7 x).map aggRo).getD (.agg #[.int .i64 0,.slice none 0 0,.slice none 0 0]) = .agg #[.int .i64 yd,.slice yA yt.length yc,.slice yB ya.length ye]):=by rw [Hid,hy1]; rfl
    have HW:=Lib.hid hw
    have HY1:=Lib.hid hy1
    have HY2:=Lib.hid hy2
    have HOR:=Lib.hid hor
    clear hw hy1 hy2 hor
    go_wp2_with (first
     | (at_lookup; go_loud (refine wpList_get (E:=keyI) (f:=fun x=>(rows7 x).map aggRo) (by rfl) _ _ 106 (by rfl) Tryz.underlying106 _ (zeroRo _) hMr x HW.out (by rfl) (by rfl) _ HV.out ?_))
     | (at_builtin; go_loud (refine wpList_append_one _ _ 55 (⟨yd,yA,yc,yt,yB,ye,ya⟩ : RowM) _ 56 _ infoRo Tryz.underlying55 HOR.out encRo_len (by omega) rfl (encRo_one _) (by omega) (by omega) (by omega) (by rfl) (by rfl) (by rfl) (by rfl) (by simp) (by rfl) ?_); intro v2 w6 hown6 hg6))
    have hbr6:=bel_only hbr hg6 (fun g hg=>(HOR.out.block_lt hg).1)
    clear hg6
    go_roundw
    case rel=>exact ⟨k+1,_,L++[⟨yd,yA,yc,yt,yB,ye,ya⟩],rfl,by omega,by go_num,hown6,by simp; omega,by rw [Hid,HT.out,List.map_append,List.map_append,hE.out]; simp only [List.map_cons,List.map_nil]; rw [HY2.out],fun z hz=>by
     rcases List.mem_append.1 hz with hz | hz
     ·
      exact hRW.out z hz
     ·
      rw [List.mem_singleton] at hz
      exact ⟨x,by rw [hz]; exact HY1.out⟩,hbr6⟩
    case measure=>simp [RowKit.intOf]; omega
   ·
    obtain rfl:k = ks.length:=by omega
    have hE2:=hE.out
    rw [List.take_length,HK1.out] at hE2
    obtain ⟨RA,rc,hv,hSR,_,_⟩:=hor.form encRo_len
    subst hv
    have hbw:=bel_adv HBW9.out hbr
    have hin:∀ x ∈ L,x.In wr:=fun x hx=>by
     obtain ⟨d',hd'⟩:=hRW.out x hx
     obtain ⟨A1,c1,e1,s1,_,_⟩:=(HSHr.out.ti d' x hd').form encTm_len
     obtain ⟨A2,c2,e2,s2,_,_⟩:=(HSHr.out.an d' x hd').form encAn_len
     injection e1 with e1 _ _
     injection e2 with e2 _ _
     subst e1 e2
     exact ⟨s1,s2⟩
    have hfin:EvalPost (ZoneM.mk zo ZA zc zl).t pcs an a b 0 w (.returned (.tuple #[.slice RA L.length rc,.int .i64 0])) wr:=⟨hbw,.inr ⟨rfl,RA,rc,L,rfl,hE2,hSR,hin⟩⟩
    have HF:=Lib.hid hfin
    clear hfin hin hbw hSR hE2 hE hRW hor
    go_wp2
    go_ret2
    exact HF.out
end
end Go.Proofs.YtopekilofdadnaaGreatDoor
namespace Go.Proofs.YtopekilofdadnaaGreatDoor
open Go.RowKit Go.Sort Go.Shelf
theorem eff_cnt (q:Int→Bool) (l:List EvT) (emp:Int) : ((effN l emp).filter (fun s=>q s.kind)).length≤(l.filter (fun e=>q e.kind)).length:=by
 obtain ⟨hp,_⟩:=effN_perm l emp
 rw [(hp.filter _).length_eq]
 have h1:((stampsN (cntF emp l)).filter (fun s=>q s.kind)).length≤((cntF emp l).filter (fun e=>q e.kind)).length:=by
  unfold stampsN
  rw [List.filter_map,List.length_map,List.filter_filter]
  have:∀ (l:List EvT) (p r:EvT→Bool),(l.filter fun a=>p a && r a).length≤(l.filter p).length:=by
   intro l p r
   induction l with
   | nil=>simp
   | cons x l ih =>
    rw [List.filter_cons,List.filter_cons]
    cases hpx:p x <;> cases hqx:r x <;> simp <;> omega
  exact this _ _ _
 have h2:=((cntN_sub emp (uniC evC l) none).filter (fun e=>q e.kind)).length_le
 have h3:=uniC_count (C:=evC) (fun e=>q e.kind) l
 unfold cntF at h1 ⊢
 omega
theorem leave_br (L t : Int) {p:PairS} {n:Nat} (h1:p.br.length≤n) (h2 : ∀ x ∈ p.ps,x.br.length≤n) : (p.leave L t).br.length≤n∧∀ x ∈ (p.leave L t).ps,x.br.length≤n:=by
 refine ⟨Nat.zero_le _,fun x hx=>?_⟩
 have hx:x ∈ (if L < t - p.beg then p.ps else if p.beg < t then p.ps++[⟨⟨p.beg,t⟩,p.br⟩] else p.ps):=hx
 split at hx
 ·
  exact h2 x hx
 ·
  split at hx
  ·
   rcases List.mem_append.1 hx with hx | hx
   ·
    exact h2 x hx
   ·
    rw [List.mem_singleton] at hx
    rw [hx]
    exact h1
  ·
   exact h2 x hx
theorem resume_br (t:Int) {p:PairS} {n:Nat} (h1:p.br.length≤n) (h2 : ∀ x ∈ p.ps,x.br.length≤n) : (p.resume t).br.length≤n+1∧∀ x ∈ (p.resume t).ps,x.br.length≤n+1:=by
 refine ⟨?_,fun x hx=>Nat.le_succ_of_le (h2 x hx)⟩
 show (if p.pau < t then p.br++[⟨p.pau,t⟩] else p.br).length≤_
 split
 ·
  rw [List.length_append,List.length_singleton]; omega
 ·
  omega
theorem read_br (L t k : Int) (p:PairS) (n:Nat) (h1:p.br.length≤n) (h2 : ∀ x ∈ p.ps,x.br.length≤n) : (p.read L t k).br.length≤n+(if k = 1 ∨ k = 3 then 0 else 1)∧∀ x ∈ (p.read L t k).ps,x.br.length≤n+(if k = 1 ∨ k = 3 then 0 else 1):=by
 have hw:∀ {a:Nat},a≤n→a≤n+(if k = 1 ∨ k = 3 then 0 else 1):=fun h=>Nat.le_trans h (Nat.le_add_right _ _)
 unfold PairS.read
 split
 ·
  split
  ·
   exact ⟨Nat.zero_le _,fun x hx=>hw (h2 x hx)⟩
  ·
   exact ⟨hw h1,fun x hx=>hw (h2 x hx)⟩
 ·
  split
  ·
   exact ⟨Nat.zero_le _,fun x hx=>hw (h2 x hx)⟩
  ·
   rename_i hk1
   split
   ·
    split
    ·
     have:=leave_br L t h1 h2
     exact ⟨hw this.1,fun x hx=>hw (this.2 x hx)⟩
    ·
     split
     ·
      exact ⟨hw h1,fun x hx=>hw (h2 x hx)⟩
     ·
      exact ⟨hw h1,fun x hx=>hw (h2 x hx)⟩
   ·
    split
    ·
     rename_i hk2
     rw [if_neg (by omega)]
     have h3:=resume_br t (p:=p.rep 4 p.pau) (n:=n) h1 h2
     exact leave_br L t h3.1 h3.2
    ·
     split
     ·
      exact ⟨hw h1,fun x hx=>hw (h2 x hx)⟩
     ·
      rw [if_neg (by omega)]
      exact resume_br t h1 h2
theorem pairTo_br (L:Int) : ∀ (l:List StampT) (p:PairS) (n:Nat),p.br.length≤n→(∀ x ∈ p.ps,x.br.length≤n)→∀ x ∈ (l.foldl (fun p s=>p.read L s.time s.kind) p).ps,x.br.length≤n+(l.filter fun s=>!(decide (s.kind = 1) || decide (s.kind = 3))).length
 | [],p,n,_,h2=>fun x hx=>by simpa using h2 x hx
 | s :: r,p,n,h1,h2=>fun x hx=>by
  obtain ⟨g1,g2⟩:=read_br L s.time s.kind p n h1 h2
  rw [List.foldl_cons] at hx
  have:=pairTo_br L r _ _ g1 g2 x hx
  rw [List.filter_cons]
  by_cases hk:s.kind = 1 ∨ s.kind = 3
  ·
   rw [if_pos hk] at this
   rw [if_neg (by simpa using fun h=>hk.resolve_left h)]
   omega
  ·
   rw [if_neg hk] at this
   rw [if_pos (by simpa [not_or] using hk),List.length_cons]
   omega
theorem pair_br (L:Int) (l:List StampT) : ∀ x ∈ (pairN L l).1,x.br.length≤(l.filter fun s=>!(decide (s.kind = 1) || decide (s.kind = 3))).length:=fun x hx=>by
 have hx:x ∈ (pairFin (pairTo L l)).ps:=hx
 have e:(pairFin (pairTo L l)).ps = (pairTo L l).ps:=by unfold pairFin; split <;> rfl
 rw [e] at hx
 have:=pairTo_br L l pair0 0 (Nat.le_refl _) (fun x hx=>by cases hx) x hx
 omega
theorem cutN_len (t:Int) : ∀ (os:List IvT) (p:List IvT × Int),(cutN t os p).1.length≤p.1.length+os.length
 | [],p=>by simp [cutN]
 | o :: os,p=>by
  rw [cutN]
  split
  ·
   have h1:(cutN t os (joinN p.1 ⟨p.2,o.f⟩,o.t)).1.length≤(joinN p.1 ⟨p.2,o.f⟩).length+os.length:=cutN_len t os (joinN p.1 ⟨p.2,o.f⟩,o.t)
   have h2:=joinN_len p.1 ⟨p.2,o.f⟩
   rw [List.length_cons]
   omega
  ·
   omega
theorem dropN_len (f:Int) (l:List IvT) : (dropN f l).length≤l.length:=(dropN_suffix f l).1.length_le
theorem withoutN_len : ∀ (l r os : List IvT),(withoutN r os l).length≤r.length+l.length * (os.length+1)
 | [],r,os=>by simp [withoutN]
 | v :: l,r,os=>by
  rw [withoutN]
  have h1:(cutN v.t (dropN v.f os) (r,v.f)).1.length≤r.length+(dropN v.f os).length:=cutN_len v.t (dropN v.f os) (r,v.f)
  have h2:=joinN_len (cutN v.t (dropN v.f os) (r,v.f)).1 ⟨(cutN v.t (dropN v.f os) (r,v.f)).2,v.t⟩
  have h3:=dropN_len v.f os
  have h4:=withoutN_len l (joinN (cutN v.t (dropN v.f os) (r,v.f)).1 ⟨(cutN v.t (dropN v.f os) (r,v.f)).2,v.t⟩) (dropN v.f os)
  have h5:l.length * ((dropN v.f os).length+1)≤l.length * (os.length+1):=Nat.mul_le_mul_left _ (by omega)
  rw [List.length_cons,Nat.succ_mul]
  omega
theorem brsN_len (l:List PresT) (n:Nat) (h : ∀ x ∈ l,x.br.length≤n) : (brsN l).length≤l.length * n:=by
 induction l with
 | nil=>simp [brsN]
 | cons x r ih =>
  have h1:=ih fun y hy=>h y (by simp [hy])
  have h2:=h x (by simp)
  have h3:(brsN (x :: r)).length = x.br.length+(brsN r).length:=by simp [brsN]
  rw [h3,List.length_cons,Nat.succ_mul]
  omega
theorem workN_len {ps:List PresT} (h4:ps.length≤4) (hb : ∀ x ∈ ps,x.br.length≤16) : (workN ps).length≤300:=by
 have h1:=withoutN_len (staysN ps) [] (brsN ps)
 have h2:=brsN_len ps 16 hb
 have h3:(staysN ps).length = ps.length:=by simp [staysN]
 have h5:(staysN ps).length * ((brsN ps).length+1)≤4 * 65:=Nat.mul_le_mul (by omega) (by omega)
 unfold workN
 simp only [List.length_nil] at h1
 omega
end Go.Proofs.YtopekilofdadnaaGreatDoor
