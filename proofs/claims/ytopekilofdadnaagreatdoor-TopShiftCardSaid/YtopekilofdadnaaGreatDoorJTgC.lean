/- Joined texts: TgC TgC2. Conditions: as stated. -/
import Derived.WalkSpells
import Derived.WalkLawsBesides
import Derived.StillTailTactics
import Derived.Test.YtopekilofdadnaaGreatDoorJTeN
import Derived.Test.YtopekilofdadnaaGreatDoorJLeaf
import Derived.Test.YtopekilofdadnaaGreatDoorJMix6
namespace Go.Proofs.YtopekilofdadnaaGreatDoor
open Go.RowKit
def orL : List Int→Int
 | []=>0
 | x :: r=>if x = 0 then orL r else x
theorem drop_hd {α:Type} (l:List α) (k:Nat) (h:k < l.length) : l.drop k = l[k] :: l.drop (k+1):=List.drop_eq_getElem_cons h
section
set_option maxHeartbeats 2000000
set_option maxRecDepth 100000
theorem isNaNC (a:Int) (w:World) : Calls Tryz.prog 82 #[.int .i64 a] w fun e w'=>e = .returned (.bool false)∧w = w':=by
 go_enter Tryz.func82,Tryz.ntmps82
 go_wp2
 go_ret
 exact ⟨by simp,rfl⟩
theorem compareC (a b : Int) (w:World) : Calls Tryz.prog 43 #[.int .i64 a,.int .i64 b] w fun e w'=>e = .returned (.int .i64 (cmpI a b))∧w = w':=by
 go_enter Tryz.func43,Tryz.ntmps43
 go_wp2_with (go_at_call 82; refine (isNaNC _ _).mono ?_; rintro e w' ⟨rfl,rfl⟩)
 all_goals go_ret
 all_goals refine ⟨?_,rfl⟩
 all_goals (simp [cmpI, *]; try omega)
theorem orC (A:Option Addr) (c:Nat) (l:List Int) (w:World) (h:SliceOf encI 1 w w.heap.size A l) (hl:l.length≤1000) : Calls Tryz.prog 42 #[.slice A l.length c] w fun e w'=>e = .returned (.int .i64 (orL l))∧w = w':=by
 go_enter Tryz.func42,Tryz.ntmps42
 go_wp2
 go_loop [8] (fun i=>∃ k:Nat,k≤l.length∧i = .int .i64 k∧Hid (orL l = orL (l.drop k))) (fun i=>l.length - (intOf i).toNat)
 case atStart=>exact ⟨0,by omega,rfl,rfl⟩
 case round =>
  obtain ⟨k,hk,rfl,hO⟩:=hrel
  by_cases hlt:k < l.length
  ·
   obtain ⟨b,off,rfl,hb,hc⟩:=h.at_ hlt
   have c0:=hc 0 _ rfl
   simp only [Nat.mul_one,Nat.add_zero] at c0
   have HD:=Lib.hid (drop_hd l k hlt)
   have hki:(k:Int) < (l.length:Int):=by omega
   clear hc
   by_cases hx:l[k] = 0
   ·
    have hx0:(l[k] != 0) = false:=by simp [hx]
    have HN:Hid (orL l = orL (l.drop (k+1))):=by rw [Hid,hO.out,HD.out,orL,if_pos hx]
    clear hx hO
    go_wp2
    go_round
    case rel=>exact ⟨k+1,by omega,by go_num,HN⟩
    case measure=>simp [intOf]; omega
   ·
    have hx0:(l[k] != 0) = true:=by simp [hx]
    have HN:Hid (orL l = l[k]):=by rw [Hid,hO.out,HD.out,orL,if_neg hx]
    clear hx hO
    go_wp2
    go_ret
    exact ⟨by rw [HN.out]; rfl,rfl⟩
  ·
   obtain rfl:k = l.length:=by omega
   have HN:Hid (orL l = 0):=by rw [Hid,hO.out,List.drop_length,orL]
   clear hO
   go_wp2
   go_ret
   exact ⟨by rw [HN.out]; rfl,rfl⟩
theorem orL2 (a b : Int) : orL [a,b] = orI a b:=by
 unfold orI
 by_cases h1:a = 0 <;> by_cases h2:b = 0 <;> simp [orL,h1,h2]
theorem lit_or (w:World) (l:List Int) {cs:Array Value} (hcs:cs = (l.map (Value.int .i64)).toArray) : SliceOf encI 1 (w.alloc (.cells cs 3)) (w.alloc (.cells cs 3)).heap.size (some ⟨w.heap.size,0,none⟩) l:=by
 subst hcs
 intro _
 refine ⟨w.heap.size,0,rfl,by simp,fun i x hi j u hj=>?_⟩
 have hB:=Blk.new w 3 (l.map (Value.int .i64)).toArray
 have hj0:j = 0:=by
  have:=(List.getElem?_eq_some_iff.1 hj).1
  simp [encI] at this
  omega
 subst hj0
 simp [encI] at hj
 rw [Nat.zero_add,Nat.mul_one,Nat.add_zero,hB.cell]
 simp [hi,← hj]
theorem lit_orD {w:World} {g:Nat} (hg:w.heap.size = g) (l:List Int) {cs:Array Value} (hcs:cs = (l.map (Value.int .i64)).toArray) : SliceOf encI 1 (w.alloc (.cells cs 3)).drew (w.alloc (.cells cs 3)).drew.heap.size (some ⟨g,0,none⟩) l:=by
 subst hg
 exact lit_or w l hcs
theorem keysC (x y : KeyT) (W:World) : Calls Tryz.prog 44 #[.agg #[.int .i64 x.term,.int .i64 x.seq],.agg #[.int .i64 y.term,.int .i64 y.seq]] W fun e w'=>e = .returned (.int .i64 (keyC x y))∧Gr W w':=by
 go_enter Tryz.func44,Tryz.ntmps44
 go_wp2
 refine wp_region_still_tail 10 (by kernel_rfl) (by kernel_rfl) ?_
 simp only [List.take_succ_cons,List.take_zero,List.drop_succ_cons,List.drop_zero]
 change wpStill _ _ (World.drew _) (fun a'=>wpList _ _ _ _ a' (World.drew _)) _ _
 iterate 4 still_step
 still_call ((compareC _ _ _).mono fun e w' ⟨h1,h2⟩=>⟨h1,h2.symm⟩)
 iterate 4 still_step
 still_call ((compareC _ _ _).mono fun e w' ⟨h1,h2⟩=>⟨h1,h2.symm⟩)
 refine wpStill_nil ?_
 go_wp2_with fail
 refine (orC (some ⟨W.heap.size+1+1,0,none⟩) 2 [cmpI x.term y.term,cmpI x.seq y.seq] _ (lit_orD (by simp) _ rfl) (by simp)).mono ?_
 rintro e w1 ⟨rfl,rfl⟩
 rw [orL2]
 go_wp2
 go_ret
 exact ⟨rfl,(((Gr.alloc _ _).trans (Gr.alloc _ _)).trans (Gr.alloc _ _)).trans (Gr.drew _)⟩
theorem ivcC (x y : IvT) (W:World) : Calls Tryz.prog 58 #[.agg #[.int .i64 x.f,.int .i64 x.t],.agg #[.int .i64 y.f,.int .i64 y.t]] W fun e w'=>e = .returned (.int .i64 (ivC x y))∧Gr W w':=by
 go_enter Tryz.func58,Tryz.ntmps58
 go_wp2_with fail
 refine (compareC _ _ _).mono ?_
 rintro e w1 ⟨rfl,rfl⟩
 go_wp2
 go_ret
 exact ⟨rfl,(Gr.alloc _ _).trans (Gr.alloc _ _)⟩
theorem spcC (x y : SpT) (W:World) : Calls Tryz.prog 100 #[.agg #[.int .i64 x.day,.int .i64 x.iv.f,.int .i64 x.iv.t],.agg #[.int .i64 y.day,.int .i64 y.iv.f,.int .i64 y.iv.t]] W fun e w'=>e = .returned (.int .i64 (spC x y))∧Gr W w':=by
 go_enter Tryz.func100,Tryz.ntmps100
 go_wp2_with fail
 refine (compareC _ _ _).mono ?_
 rintro e w1 ⟨rfl,rfl⟩
 go_wp2
 go_ret
 exact ⟨rfl,(Gr.alloc _ _).trans (Gr.alloc _ _)⟩
end
end Go.Proofs.YtopekilofdadnaaGreatDoor
namespace Go.Proofs.YtopekilofdadnaaGreatDoor
open Go.RowKit
theorem wp_region_or {P:Program} {id:Nat} {Q:Exit→Act→World→Prop} {a aE : Act} {W:World} {L:List Oper} (is:List Nat) (ia ic iz : Nat) {da dc dz : Nat} {oa oc oz : Oper} (l:List Int) (fo:FuncId) (ti:TypeId)
  (hm:P.follows .mixedOrders = true) (hs:Region.noSelect L.toArray = true) (hn:3+is.length = L.length)
  (hi:is.all (fun i=>decide (i < L.toArray.size)) = true) (hB:M6.lexSel .any L.toArray is (Array.replicate L.length false) = true) (hd:M6.dstsOk a.tmps.size (M6.opsAt L.toArray is) = true)
  (r1:Region.ready .any L.toArray (M6.listSel is (Array.replicate L.length false)) = [ia]) (r2:Region.ready .any L.toArray ((M6.listSel is (Array.replicate L.length false)).setIfInBounds ia true) = [ic])
  (r3:Region.ready .any L.toArray (((M6.listSel is (Array.replicate L.length false)).setIfInBounds ia true).setIfInBounds ic true) = [iz])
  (r4:Region.ready .any L.toArray ((((M6.listSel is (Array.replicate L.length false)).setIfInBounds ia true).setIfInBounds ic true).setIfInBounds iz true) = [])
  (hoa:L.toArray[ia]? = some oa) (hoc:L.toArray[ic]? = some oc) (hoz:L.toArray[iz]? = some oz) (hda:oa.dst = some da) (hdc:oc.dst = some dc) (hdz:oz.dst = some dz) (hga:oa.guard = none) (hgc:oc.guard = none) (hgz:oz.guard = none)
  (H:∀ F:World→Prop,StableG F→Inhabited (BwC (fun w'=>Gr W w') F)→wpQuiet P L.toArray (fun w'=>∃ p:BwC (fun w'=>Gr W w') F,w' = p.w') (fun a'=>a' = aE) (M6.opsAt L.toArray is) a)
  (Ea:∀ w,(execOp aE.eval oa).run P w = .ok (.value (.slice (some ⟨w.heap.size,0,none⟩) l.length l.length)) (w.alloc (.cells (l.map (Value.int .i64)).toArray ti)))
  (Ec:∀ u w,(execOp (aE.put (some da) u).eval oc).run P w = .ok (.enter fo #[u]) w)
  (Ez:∀ u v w,(execOp ((aE.put (some da) u).put (some dc) v).eval oz).run P w = .ok (.value v) w)
  (ho:∀ (g:Nat) (w:World),Blk w g ti (l.map (Value.int .i64)).toArray→Calls P fo #[.slice (some ⟨g,0,none⟩) l.length l.length] w fun e w'=>e = .returned (.int .i64 (orL l))∧w = w')
  (M:∀ u w',Gr W w'→Q .normal (((aE.put (some da) u).put (some dc) (.int .i64 (orL l))).put (some dz) (.int .i64 (orL l))) w') : (Code.region id L.toArray true).wp P Q a W:=by
 refine M6.wp_region_sel (C:=fun w'=>Gr W w') (stableGr W) (Gr.refl W) is 3 hm hs hn hi hB hd H ?_
 intro Q0 hQ0
 refine M6.mix_step [ia] r1 (by simp) ?_
 intro w1 hC1 _ i hi'
 rw [List.mem_singleton] at hi'
 subst hi'
 refine M6.mix_val _ _ hoa (by simp [Region.wanted,hga]) (Ea w1) ⟨hC1.trans (Gr.alloc _ _),?_⟩
 rw [hda]
 refine M6.mix_step [ic] r2 (by simp) ?_
 intro w2 hC2 hb2 i hi'
 rw [List.mem_singleton] at hi'
 subst hi'
 have hB2:=(Blk.new w1 ti (l.map (Value.int .i64)).toArray).adv hb2.b
 refine M6.mix_call fo _ hoc (by simp [Region.wanted,hgc]) (Ec _ w2) ?_
 refine (ho _ _ hB2).mono ?_
 rintro e w3 ⟨rfl,rfl⟩
 refine ⟨_,rfl,hC2,?_⟩
 rw [hdc]
 refine M6.mix_step [iz] r3 (by simp) ?_
 intro w4 hC4 _ i hi'
 rw [List.mem_singleton] at hi'
 subst hi'
 refine M6.mix_val _ _ hoz (by simp [Region.wanted,hgz]) (Ez _ _ w4) ⟨hC4,?_⟩
 rw [hdz]
 refine M6.mix_end r4 ?_
 intro w5 hC5 _
 exact hQ0 _ _ (M _ w5 hC5)
theorem blk_or {w:World} {g:Nat} {l:List Int} (hB:Blk w g 3 (l.map (Value.int .i64)).toArray) : SliceOf encI 1 w w.heap.size (some ⟨g,0,none⟩) l:=by
 intro _
 refine ⟨g,0,rfl,hB.lt,fun i x hi j u hj=>?_⟩
 have hj0:j = 0:=by
  have:=(List.getElem?_eq_some_iff.1 hj).1
  simp [encI] at this
  omega
 subst hj0
 simp [encI] at hj
 rw [Nat.zero_add,Nat.mul_one,Nat.add_zero,hB.cell]
 simp [hi,← hj]
section
set_option maxHeartbeats 2000000
set_option maxRecDepth 100000
theorem orL5 (a b c d e : Int) : orL [a,b,c,d,e] = orI a (orI b (orI c (orI d e))):=by
 unfold orI
 by_cases h1:a = 0 <;> by_cases h2:b = 0 <;> by_cases h3:c = 0 <;> by_cases h4:d = 0 <;> by_cases h5:e = 0 <;> simp [orL,h1,h2,h3,h4,h5]
def evAgg (x:EvT) : Value:=.agg #[.int .i64 x.key.term,.int .i64 x.key.seq,.int .i64 x.emp,.int .i64 x.time,.int .i64 x.kind,.int .i64 x.target.term,.int .i64 x.target.seq]
theorem evcC (x y : EvT) (w:World) : Calls Tryz.prog 118 #[evAgg x,evAgg y] w fun e w'=>e = .returned (.int .i64 (evC x y))∧Gr w w':=by
 have HE:Hid (evC x y = orL [keyC x.key y.key,cmpI x.emp y.emp,cmpI x.time y.time,cmpI x.kind y.kind,keyC x.target y.target]):=by rw [Hid,orL5]; rfl
 have hB1:=(Blk.new w 41 #[.int .i64 x.key.term,.int .i64 x.key.seq,.int .i64 x.emp,.int .i64 x.time,.int .i64 x.kind,.int .i64 x.target.term,.int .i64 x.target.seq]).alloc (.cells #[.int .i64 y.key.term,.int .i64 y.key.seq,.int .i64 y.emp,.int .i64 y.time,.int .i64 y.kind,.int .i64 y.target.term,.int .i64 y.target.seq] 41)
 have hB2:=Blk.newAt (w:=w.alloc (.cells #[.int .i64 x.key.term,.int .i64 x.key.seq,.int .i64 x.emp,.int .i64 x.time,.int .i64 x.kind,.int .i64 x.target.term,.int .i64 x.target.seq] 41)) (g:=w.heap.size+1) 41 #[.int .i64 y.key.term,.int .i64 y.key.seq,.int .i64 y.emp,.int .i64 y.time,.int .i64 y.kind,.int .i64 y.target.term,.int .i64 y.target.seq] (by simp)
 have hG:Gr w ((w.alloc (.cells #[.int .i64 x.key.term,.int .i64 x.key.seq,.int .i64 x.emp,.int .i64 x.time,.int .i64 x.kind,.int .i64 x.target.term,.int .i64 x.target.seq] 41)).alloc (.cells #[.int .i64 y.key.term,.int .i64 y.key.seq,.int .i64 y.emp,.int .i64 y.time,.int .i64 y.kind,.int .i64 y.target.term,.int .i64 y.target.seq] 41)):=(Gr.alloc _ _).trans (Gr.alloc _ _)
 show Calls Tryz.prog 118 #[.agg #[.int .i64 x.key.term,.int .i64 x.key.seq,.int .i64 x.emp,.int .i64 x.time,.int .i64 x.kind,.int .i64 x.target.term,.int .i64 x.target.seq],.agg #[.int .i64 y.key.term,.int .i64 y.key.seq,.int .i64 y.emp,.int .i64 y.time,.int .i64 y.kind,.int .i64 y.target.term,.int .i64 y.target.seq]] w _
 go_enter Tryz.func118,Tryz.ntmps118
 go_wp2
 generalize (w.alloc (.cells #[.int .i64 x.key.term,.int .i64 x.key.seq,.int .i64 x.emp,.int .i64 x.time,.int .i64 x.kind,.int .i64 x.target.term,.int .i64 x.target.seq] 41)).alloc (.cells #[.int .i64 y.key.term,.int .i64 y.key.seq,.int .i64 y.emp,.int .i64 y.time,.int .i64 y.kind,.int .i64 y.target.term,.int .i64 y.target.seq] 41) = W at hB1 hB2 hG ⊢
 have hl1:=hB1.lt
 have hl2:=hB2.lt
 have x0:=hB1.cell 0
 have x1:=hB1.cell 1
 have x2:=hB1.cell 2
 have x3:=hB1.cell 3
 have x4:=hB1.cell 4
 have x5:=hB1.cell 5
 have x6:=hB1.cell 6
 simp only [nqg,nqh,nqi] at x0 x1 x2 x3 x4 x5 x6
 have y0:=hB2.cell 0
 have y1:=hB2.cell 1
 have y2:=hB2.cell 2
 have y3:=hB2.cell 3
 have y4:=hB2.cell 4
 have y5:=hB2.cell 5
 have y6:=hB2.cell 6
 simp only [nqg,nqh,nqi] at y0 y1 y2 y3 y4 y5 y6
 clear hB1 hB2
 refine wp_region_or (aE:=?aE) [0,1,2,3,4,5,6,7,8,9,10,11,12,13,14,15,16,17,18,19,20,21,22,23,24] 25 26 27 [keyC x.key y.key,cmpI x.emp y.emp,cmpI x.time y.time,cmpI x.kind y.kind,keyC x.target y.target] 42 3 (by kernel_rfl) (by kernel_rfl) rfl (by kernel_rfl) (by kernel_rfl) (by rfl) (by kernel_rfl) (by kernel_rfl) (by kernel_rfl) (by kernel_rfl) rfl rfl rfl rfl rfl rfl rfl rfl rfl ?H ?Ea ?Ec ?Ez ?ho ?M
 case H =>
  intro F hF inst
  simp only [M6.opsAt,List.getElem?_toArray,List.getElem?_cons_zero,List.getElem?_cons_succ]
  have e0:=BwC.cellH (F:=F) (a:=⟨w.heap.size,0,none⟩) (by exact hl1) x0
  have e1:=BwC.cellH (F:=F) (a:=⟨w.heap.size,1,none⟩) (by exact hl1) x1
  have e2:=BwC.cellH (F:=F) (a:=⟨w.heap.size,2,none⟩) (by exact hl1) x2
  have e3:=BwC.cellH (F:=F) (a:=⟨w.heap.size,3,none⟩) (by exact hl1) x3
  have e4:=BwC.cellH (F:=F) (a:=⟨w.heap.size,4,none⟩) (by exact hl1) x4
  have e5:=BwC.cellH (F:=F) (a:=⟨w.heap.size,5,none⟩) (by exact hl1) x5
  have e6:=BwC.cellH (F:=F) (a:=⟨w.heap.size,6,none⟩) (by exact hl1) x6
  have f0:=BwC.cellH (F:=F) (a:=⟨w.heap.size+1,0,none⟩) (by exact hl2) y0
  have f1:=BwC.cellH (F:=F) (a:=⟨w.heap.size+1,1,none⟩) (by exact hl2) y1
  have f2:=BwC.cellH (F:=F) (a:=⟨w.heap.size+1,2,none⟩) (by exact hl2) y2
  have f3:=BwC.cellH (F:=F) (a:=⟨w.heap.size+1,3,none⟩) (by exact hl2) y3
  have f4:=BwC.cellH (F:=F) (a:=⟨w.heap.size+1,4,none⟩) (by exact hl2) y4
  have f5:=BwC.cellH (F:=F) (a:=⟨w.heap.size+1,5,none⟩) (by exact hl2) y5
  have f6:=BwC.cellH (F:=F) (a:=⟨w.heap.size+1,6,none⟩) (by exact hl2) y6
  have k1:=fun p:BwC (fun w'=>Gr W w') F=>BwC.callG (stableGr W) hF p (keysC x.key y.key p.w')
  have k2:=fun p:BwC (fun w'=>Gr W w') F=>BwC.callG (stableGr W) hF p (keysC x.target y.target p.w')
  have k3:=fun (p:BwC (fun w'=>Gr W w') F) (a b:Int)=>BwC.sameG p (compareC a b p.w')
  repeat (first | go_big_quiet_step (first | (with_reducible exact k1 _) | (with_reducible exact k2 _) | (with_reducible exact k3 _ _ _)) | quiet_step (first | (with_reducible exact k1 _) | (with_reducible exact k2 _) | (with_reducible exact k3 _ _ _)))
  refine wpQuiet_nil ?_
  rfl
 case Ea=>exact fun _=>by first | rfl | (go_simp; done) | (go_simp; rfl)
 case Ec=>exact fun _ _=>by first | rfl | go_simp
 case Ez=>exact fun _ _ _=>by first | rfl | go_simp
 case ho=>exact fun g w hB=>orC _ _ _ _ (blk_or hB) (by simp)
 case M =>
  intro u w' hg
  try simp only [Act.put,List.setIfInBounds_toArray,List.set_cons_succ,List.set_cons_zero]
  go_wp2
  go_ret
  exact ⟨by rw [HE.out]; rfl,hG.trans hg⟩
def stAgg (x:StampT) : Value:=.agg #[.int .i64 x.time,.int .i64 x.kind,.int .i64 x.key.term,.int .i64 x.key.seq]
theorem stcC (x y : StampT) (w:World) : Calls Tryz.prog 41 #[stAgg x,stAgg y] w fun e w'=>e = .returned (.int .i64 (stC x y))∧Gr w w':=by
 have HE:Hid (stC x y = orL [cmpI x.time y.time,keyC x.key y.key]):=by rw [Hid,orL2]; rfl
 have hB1:=(Blk.new w 127 #[.int .i64 x.time,.int .i64 x.kind,.int .i64 x.key.term,.int .i64 x.key.seq]).alloc (.cells #[.int .i64 y.time,.int .i64 y.kind,.int .i64 y.key.term,.int .i64 y.key.seq] 127)
 have hB2:=Blk.newAt (w:=w.alloc (.cells #[.int .i64 x.time,.int .i64 x.kind,.int .i64 x.key.term,.int .i64 x.key.seq] 127)) (g:=w.heap.size+1) 127 #[.int .i64 y.time,.int .i64 y.kind,.int .i64 y.key.term,.int .i64 y.key.seq] (by simp)
 have hG:Gr w ((w.alloc (.cells #[.int .i64 x.time,.int .i64 x.kind,.int .i64 x.key.term,.int .i64 x.key.seq] 127)).alloc (.cells #[.int .i64 y.time,.int .i64 y.kind,.int .i64 y.key.term,.int .i64 y.key.seq] 127)):=(Gr.alloc _ _).trans (Gr.alloc _ _)
 show Calls Tryz.prog 41 #[.agg #[.int .i64 x.time,.int .i64 x.kind,.int .i64 x.key.term,.int .i64 x.key.seq],.agg #[.int .i64 y.time,.int .i64 y.kind,.int .i64 y.key.term,.int .i64 y.key.seq]] w _
 go_enter Tryz.func41,Tryz.ntmps41
 go_wp2
 generalize (w.alloc (.cells #[.int .i64 x.time,.int .i64 x.kind,.int .i64 x.key.term,.int .i64 x.key.seq] 127)).alloc (.cells #[.int .i64 y.time,.int .i64 y.kind,.int .i64 y.key.term,.int .i64 y.key.seq] 127) = W at hB1 hB2 hG ⊢
 have hl1:=hB1.lt
 have hl2:=hB2.lt
 have x0:=hB1.cell 0
 have x1:=hB1.cell 1
 have x2:=hB1.cell 2
 have x3:=hB1.cell 3
 simp only [nqg,nqh,nqi] at x0 x1 x2 x3
 have y0:=hB2.cell 0
 have y1:=hB2.cell 1
 have y2:=hB2.cell 2
 have y3:=hB2.cell 3
 simp only [nqg,nqh,nqi] at y0 y1 y2 y3
 clear hB1 hB2
 refine wp_region_or (aE:=?aE) [0,1,2,3,4,5,6,7,8,9] 10 11 12 [cmpI x.time y.time,keyC x.key y.key] 42 3 (by kernel_rfl) (by kernel_rfl) rfl (by kernel_rfl) (by kernel_rfl) (by rfl) (by kernel_rfl) (by kernel_rfl) (by kernel_rfl) (by kernel_rfl) rfl rfl rfl rfl rfl rfl rfl rfl rfl ?H ?Ea ?Ec ?Ez ?ho ?M
 case H =>
  intro F hF inst
  simp only [M6.opsAt,List.getElem?_toArray,List.getElem?_cons_zero,List.getElem?_cons_succ]
  have e0:=BwC.cellH (F:=F) (a:=⟨w.heap.size,0,none⟩) (by exact hl1) x0
  have e1:=BwC.cellH (F:=F) (a:=⟨w.heap.size,1,none⟩) (by exact hl1) x1
  have e2:=BwC.cellH (F:=F) (a:=⟨w.heap.size,2,none⟩) (by exact hl1) x2
  have e3:=BwC.cellH (F:=F) (a:=⟨w.heap.size,3,none⟩) (by exact hl1) x3
  have f0:=BwC.cellH (F:=F) (a:=⟨w.heap.size+1,0,none⟩) (by exact hl2) y0
  have f1:=BwC.cellH (F:=F) (a:=⟨w.heap.size+1,1,none⟩) (by exact hl2) y1
  have f2:=BwC.cellH (F:=F) (a:=⟨w.heap.size+1,2,none⟩) (by exact hl2) y2
  have f3:=BwC.cellH (F:=F) (a:=⟨w.heap.size+1,3,none⟩) (by exact hl2) y3
  have k1:=fun p:BwC (fun w'=>Gr W w') F=>BwC.callG (stableGr W) hF p (keysC x.key y.key p.w')
  have k3:=fun (p:BwC (fun w'=>Gr W w') F) (a b:Int)=>BwC.sameG p (compareC a b p.w')
  repeat (first | go_big_quiet_step (first | (with_reducible exact k1 _) | (with_reducible exact k3 _ _ _)) | quiet_step (first | (with_reducible exact k1 _) | (with_reducible exact k3 _ _ _)))
  refine wpQuiet_nil ?_
  rfl
 case Ea=>exact fun _=>by first | rfl | (go_simp; done) | (go_simp; rfl)
 case Ec=>exact fun _ _=>by first | rfl | go_simp
 case Ez=>exact fun _ _ _=>by first | rfl | go_simp
 case ho=>exact fun g w hB=>orC _ _ _ _ (blk_or hB) (by simp)
 case M =>
  intro u w' hg
  try simp only [Act.put,List.setIfInBounds_toArray,List.set_cons_succ,List.set_cons_zero]
  go_wp2
  go_ret
  exact ⟨by rw [HE.out]; rfl,hG.trans hg⟩
end
end Go.Proofs.YtopekilofdadnaaGreatDoor
