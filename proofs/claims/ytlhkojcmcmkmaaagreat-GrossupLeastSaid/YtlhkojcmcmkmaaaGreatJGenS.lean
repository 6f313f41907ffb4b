/- Joined texts: GenS. Conditions: as stated. -/
import Derived.Test.YtlhkojcmcmkmaaaGreatJNetP
import Derived.Test.YtlhkojcmcmkmaaaGreatJMix2
import Derived.Test.YtlhkojcmcmkmaaaGreatJGenP
namespace Go.Proofs.YtlhkojcmcmkmaaaGreat
open Go.RowKit
theorem DeckIn.bel {w w' : World} {b M : Nat} (h:DeckIn w b M) (hb:Below w.heap.size w w') : DeckIn w' b M:=h.grown (only_of_below hb none) (by intro g e; cases e)
theorem stable_blk (g:Nat) (t:TypeId) (cs:Array Value) : Stable (fun w'=>Blk w' g t cs):=fun _ _ h hb=>h.adv hb
def BlkM (g:Nat) (t:TypeId) (f:Value→Array Value) (w' : World) : Prop:=∃ m : Value,Blk w' g t (f m)
theorem BlkM.stable (g:Nat) (t:TypeId) (f:Value→Array Value) : Stable (BlkM g t f):=fun _ _ ⟨m,h⟩ hb=>⟨m,h.adv hb⟩
set_option maxRecDepth 100000 in
set_option maxHeartbeats 2000000 in
theorem shield_any (b M : Nat) (w:World) (hM:M≤700000) (hd:DeckIn w b M) :
  Calls Tryz.prog 67 #[.pointer (some ⟨b,0,none⟩)] w fun e w'=>∃ s:ShT,e = .returned (.agg #[.int .i64 s.fixed,.int .i64 s.dependent,.int .i64 s.lower,.int .i64 s.share,.int .i64 s.top])∧ShOk s∧DeckIn w' b (M+10)∧w.grownBy w' (some b):=by
 have hlt:=hd.lt
 go_enter Tryz.func67,Tryz.ntmps67
 go_wp2_with fail
 refine (small_any b M _ (by omega) (hd.alloc _)).mono ?_
 rintro e w1 ⟨r1,rfl,ha1,hb1,hd1,hg1⟩
 go_wp2_with fail
 refine (pick_new b (M+2) w1 [120000,100000,0,r1] _ _ _ rfl rfl (by omega) hd1 (by simp) (by simp)).mono ?_
 rintro e w2 ⟨r2,rfl,hm2,hd2,hg2⟩
 go_wp2_with fail
 refine (pick_new b (M+2+1) w2 [30000,0,1] _ _ _ rfl rfl (by omega) hd2 (by simp) (by simp)).mono ?_
 rintro e w3 ⟨r3,rfl,hm3,hd3,hg3⟩
 go_wp2_with fail
 refine (rate_any b (M+2+1+1) _ (by omega) hd3).mono ?_
 rintro e w4 ⟨r4,rfl,ha4,hb4,hd4,hg4⟩
 go_wp2_with fail
 refine (pick_new b (M+2+1+1+2) w4 [400000,0,150000,1000000] _ _ _ rfl rfl (by omega) hd4 (by simp) (by simp)).mono ?_
 rintro e w5 ⟨r5,rfl,hm5,hd5,hg5⟩
 have hR:=((((((Blk.new w 43 #[.int .i64 0,.int .i64 0,.int .i64 0,.int .i64 0,.int .i64 0]).grown hg1 (by intro e; injection e; omega)).grown hg2 (by intro e; injection e; omega)).grown hg3 (by intro e; injection e; omega)).grown hg4 (by intro e; injection e; omega)).grown hg5 (by intro e; injection e; omega))
 have hG:w.grownBy w5 (some b):=only_trans (only_trans (only_trans (only_trans (only_trans (only_alloc (only_refl _ _) _) hg1) hg2) hg3) hg4) hg5
 have hdr2:0≤r2∧r2 < 600000:=by simp at hm2; omega
 have hdr3:0≤r3∧r3≤30000:=by simp at hm3; omega
 have hdr5:0≤r5∧r5≤1000000:=by simp at hm5; omega
 have hlr:=hR.lt
 clear hg1 hg2 hg3 hg4 hg5 hd1 hd2 hd3 hd4 hd hm2 hm3 hm5
 have hX0:=Blk.new w5 43 #[.int .i64 r2,.int .i64 r3,.int .i64 0,.int .i64 r4,.int .i64 r5]
 have hR0:=hR.alloc (Obj.cells #[.int .i64 r2,.int .i64 r3,.int .i64 0,.int .i64 r4,.int .i64 r5] 43)
 have hd0:=hd5.alloc (Obj.cells #[.int .i64 r2,.int .i64 r3,.int .i64 0,.int .i64 r4,.int .i64 r5] 43)
 have hG0:=only_alloc hG (Obj.cells #[.int .i64 r2,.int .i64 r3,.int .i64 0,.int .i64 r4,.int .i64 r5] 43)
 go_upto_region 2 with fail
 generalize hW:w5.alloc (Obj.cells #[.int .i64 r2,.int .i64 r3,.int .i64 0,.int .i64 r4,.int .i64 r5] 43) = W at *
 have hlW:w5.heap.size < W.heap.size:=hX0.lt
 have hgR:w.heap.size ≠ w5.heap.size:=by omega
 have hbg:b < w5.heap.size:=by have:=hd5.lt; omega
 generalize w5.heap.size = g at *
 clear hW hd5 hG hR
 refine M3.wp_region_sel (C:=BlkM g 43 (fun m=>#[.int .i64 r2,.int .i64 r3,m,.int .i64 r4,.int .i64 r5])) (BlkM.stable _ _ _) ⟨_,hX0⟩ (aE:=?aE) [0,1,2,3,4] 5 (by kernel_rfl) (by kernel_rfl) rfl (by kernel_rfl) (by kernel_rfl) (by rfl) ?H ?M
 case H =>
  intro F hF inst
  simp only [M3.opsAt,List.getElem?_toArray,List.getElem?_cons_zero,List.getElem?_cons_succ]
  have e0:∀ p:BwC (BlkM g 43 (fun m=>#[.int .i64 r2,.int .i64 r3,m,.int .i64 r4,.int .i64 r5])) F,p.w'.cell? ⟨g,0,none⟩ = some (.int .i64 r2):=fun p=>by
   obtain ⟨m,h⟩:=p.h
   exact (h.cell 0).trans rfl
  repeat (first | go_big_quiet_step (fail))
  refine wpQuiet_nil ?_
  rfl
 case M =>
  intro Q0 hQ0
  refine M3.mix_step [5] (by kernel_rfl) (by simp) ?_
  intro w11 hC11 hb11 i hi
  simp only [nqj,nqk,or_false] at hi
  subst hi
  have hX11:=hX0.adv hb11
  have hR11:=hR0.adv hb11
  have hd11:=hd0.bel hb11
  have hG11:=only_adv hG0 hb11
  clear hb11 hX0 hR0 hd0 hG0
  refine M3.mix_val (.slice (some ⟨w11.heap.size,0,none⟩) 3 3) (w11.alloc (.cells #[.int .i64 80000,.int .i64 0,.int .i64 r2] 3)) rfl rfl (by go_simp) ⟨⟨_,hX11.alloc _⟩,?_⟩
  simp only [Act.put,nqa,nqb,nqc,nqd,nqe,nqf]
  have hL12:=lit_ints w11 [80000,0,r2] #[.int .i64 80000,.int .i64 0,.int .i64 r2] rfl
  have hX12:=hX11.alloc (.cells #[.int .i64 80000,.int .i64 0,.int .i64 r2] 3)
  have hR12:=hR11.alloc (.cells #[.int .i64 80000,.int .i64 0,.int .i64 r2] 3)
  have hd12:=hd11.alloc (.cells #[.int .i64 80000,.int .i64 0,.int .i64 r2] 3)
  have hG12:=only_alloc hG11 (.cells #[.int .i64 80000,.int .i64 0,.int .i64 r2] 3)
  have hq12:b < w11.heap.size:=hd11.lt
  clear hC11 hX11 hR11 hd11 hG11
  generalize w11.alloc (.cells #[.int .i64 80000,.int .i64 0,.int .i64 r2] 3) = w12 at *
  generalize w11.heap.size = q at *
  refine M3.mix_step [6] (by kernel_rfl) (by simp) ?_
  intro w13 hC13 hb13 i hi
  simp only [nqj,nqk,or_false] at hi
  subst hi
  have hX13:=hX12.adv hb13
  have hR13:=hR12.adv hb13
  have hd13:=hd12.bel hb13
  have hG13:=only_adv hG12 hb13
  have hL13:=hL12.adv hb13
  clear hb13 hX12 hR12 hd12 hG12 hL12
  refine M3.mix_call 66 #[.pointer (some ⟨b,0,none⟩),.slice (some ⟨q,0,none⟩) 3 3] rfl rfl (by go_simp) ?_
  refine (pick_any b (M+2+1+1+2+1) w13 (some ⟨q,0,none⟩) [80000,0,r2] 3 (by omega) hd13 (by simp) (by simp) hL13 (by intro a ha; injection ha with ha; subst ha; show q ≠ b; omega)).mono ?_
  rintro e w14 ⟨r14,rfl,hm14,hd14,hg14⟩
  have hX14:=hX13.grown hg14 (by intro e; injection e; omega)
  have hR14:=hR13.grown hg14 (by intro e; injection e; omega)
  have hG14:=only_trans hG13 hg14
  refine ⟨_,rfl,⟨_,hX14⟩,?_⟩
  simp only [Act.put,nqa,nqb,nqc,nqd,nqe,nqf]
  clear hg14 hC13 hd13 hX13 hR13 hG13
  clear hL13
  refine M3.mix_step [7] (by kernel_rfl) (by simp) ?_
  intro w15 hC15 hb15 i hi
  simp only [nqj,nqk,or_false] at hi
  subst hi
  have hX15:=hX14.adv hb15
  have hR15:=hR14.adv hb15
  have hd15:=hd14.bel hb15
  have hG15:=only_adv hG14 hb15
  clear hb15 hX14 hR14 hd14 hG14
  have hdr14:0≤r14:=by simp at hm14; omega
  obtain ⟨m,hm,hm0,hm1⟩ : ∃ m:Int,(m = if r14 < r2 then r14 else r2)∧0≤m∧m≤r2:=⟨_,rfl,by split <;> omega,by split <;> omega⟩
  clear hm14
  refine M3.mix_val (.int .i64 m) w15 rfl rfl (by subst hm; split <;> rename_i hle <;> go_simp <;> omega) ⟨hC15,?_⟩
  simp only [Act.put,nqa,nqb,nqc,nqd,nqe,nqf]
  clear hm hC15
  refine M3.mix_step [8] (by kernel_rfl) (by simp) ?_
  intro w19 hC19 hb19 i hi
  simp only [nqj,nqk,or_false] at hi
  subst hi
  have hX19:=hX15.adv hb19
  have hR19:=hR15.adv hb19
  have hd19:=hd15.bel hb19
  have hG19:=only_adv hG15 hb19
  clear hb19 hX15 hR15 hd15 hG15
  refine M3.mix_val (.pointer (some ⟨g,2,none⟩)) w19 rfl rfl (by go_simp) ⟨hC19,?_⟩
  simp only [Act.put,nqa,nqb,nqc,nqd,nqe,nqf]
  clear hC19
  refine M3.mix_step [9] (by kernel_rfl) (by simp) ?_
  intro w16 hC16 hb16 i hi
  simp only [nqj,nqk,or_false] at hi
  subst hi
  have hX16:=hX19.adv hb16
  have hR16:=hR19.adv hb16
  have hd16:=hd19.bel hb16
  have hG16:=only_adv hG19 hb16
  clear hb16 hX19 hR19 hd19 hG19
  have z:=hX16.cell 2
  have fz:=hX16.frozen 2
  have lg:=hX16.lt
  simp only [nqg,nqh,nqi] at z
  have hX17:=hX16.set_ 2 (.int .i64 m)
  simp only [List.setIfInBounds_toArray,List.set_cons_succ,List.set_cons_zero] at hX17
  have hR17:=hR16.far (p:=⟨g,2,none⟩) hgR (.int .i64 m)
  have hd17:=hd16.set hbg 2 (.int .i64 m)
  have hG17:=only_setCell (p:=⟨g,2,none⟩) hG16 (.inr (by show w.heap.size≤g; omega)) (.int .i64 m)
  refine M3.mix_skip (w16.setCell ⟨g,2,none⟩ (.int .i64 m)) rfl rfl (by go_simp) ⟨⟨_,hX17⟩,?_⟩
  simp only [Act.put,nqa,nqb,nqc]
  clear z fz lg hX16 hR16 hd16 hG16 hC16
  generalize w16.setCell ⟨g,2,none⟩ (.int .i64 m) = w17 at *
  refine M3.mix_end (by kernel_rfl) ?_
  intro w18 hC18 hb18
  refine hQ0 _ _ ?_
  have hX18:=hX17.adv hb18
  have hR18:=hR17.adv hb18
  have hd18:=hd17.bel hb18
  have hG18:=only_adv hG17 hb18
  clear hb18 hC18 hQ0 hX17 hR17 hd17 hG17
  have x0:=hX18.cell 0
  have x1:=hX18.cell 1
  have x2:=hX18.cell 2
  have x3:=hX18.cell 3
  have x4:=hX18.cell 4
  simp only [nqg,nqh,nqi] at x0 x1 x2 x3 x4
  have l1:=hX18.lt
  clear hX18
  have y0:=hR18.cell 0
  have y1:=hR18.cell 1
  have y2:=hR18.cell 2
  have y3:=hR18.cell 3
  have y4:=hR18.cell 4
  simp only [nqg,nqh,nqi] at y0 y1 y2 y3 y4
  have fy0:=hR18.frozen 0
  have fy1:=hR18.frozen 1
  have fy2:=hR18.frozen 2
  have fy3:=hR18.frozen 3
  have fy4:=hR18.frozen 4
  have l2:=hR18.lt
  have hfin:=hR18.fill [.int .i64 r2,.int .i64 r3,.int .i64 m,.int .i64 r4,.int .i64 r5] rfl
  simp only [putAll,Nat.zero_add,Nat.reduceAdd] at hfin
  have hdF:=(DeckIn.set (DeckIn.set (DeckIn.set (DeckIn.set (DeckIn.set hd18 (g:=w.heap.size) hlt 0 (.int .i64 r2)) (g:=w.heap.size) hlt 1 (.int .i64 r3)) (g:=w.heap.size) hlt 2 (.int .i64 m)) (g:=w.heap.size) hlt 3 (.int .i64 r4)) (g:=w.heap.size) hlt 4 (.int .i64 r5))
  have hGF:=(only_setCell (p:=⟨w.heap.size,4,none⟩) (only_setCell (p:=⟨w.heap.size,3,none⟩) (only_setCell (p:=⟨w.heap.size,2,none⟩) (only_setCell (p:=⟨w.heap.size,1,none⟩) (only_setCell (p:=⟨w.heap.size,0,none⟩) hG18 (.inr (Nat.le_refl _)) (.int .i64 r2)) (.inr (Nat.le_refl _)) (.int .i64 r3)) (.inr (Nat.le_refl _)) (.int .i64 m)) (.inr (Nat.le_refl _)) (.int .i64 r4)) (.inr (Nat.le_refl _)) (.int .i64 r5))
  clear hR18 hd18 hG18
  go_wp2_with fail
  generalize World.setCell _ ⟨w.heap.size,4,none⟩ _ = WW at hfin hdF hGF ⊢
  have q0:=hfin.cell 0
  have q1:=hfin.cell 1
  have q2:=hfin.cell 2
  have q3:=hfin.cell 3
  have q4:=hfin.cell 4
  simp only [nqg,nqh,nqi] at q0 q1 q2 q3 q4
  refine bodyPost_ret (v:=.agg #[.int .i64 r2,.int .i64 r3,.int .i64 m,.int .i64 r4,.int .i64 r5]) ?_ rfl (⟨⟨r2,r3,m,r4,r5⟩,rfl,⟨hdr2.1,by show r2≤_; omega,hdr3.1,by show r3≤_; omega,hm0,hm1,ha4,hb4,hdr5.1,by show r5≤_; omega⟩,hdF.mono (by omega),hGF⟩)
  simp [results,Tryz.results67,go_sem,q0,q1,q2,q3,q4]
def DrawnS (s:SchT) : Prop:=(0≤s.employee∧s.employee≤200000)∧(0≤s.employer∧s.employer≤200000)∧(1≤s.ceiling∧s.ceiling≤1000000000)∧(0≤s.floor∧s.floor≤s.ceiling)∧(1≤s.unit∧s.unit≤100)∧0≤s.mode∧s.mode≤6
theorem DrawnS.ok {s:SchT} (h:DrawnS s) (hn:nameB s.code = true) : SchOk s:=by
 obtain ⟨⟨a,b⟩,⟨c,d⟩,⟨e,f⟩,⟨g,i⟩,⟨j,k⟩,l,m⟩:=h
 exact ⟨hn,a,by omega,c,by omega,e,f,g,i,j,k,l,m⟩
set_option maxRecDepth 100000 in
set_option maxHeartbeats 4000000 in
theorem scheme_any (b M : Nat) (code:ByteArray) (w:World) (hM:M≤700000) (hd:DeckIn w b M) :
  Calls Tryz.prog 117 #[.pointer (some ⟨b,0,none⟩),.string code] w fun e w'=>∃ s:SchT,e = .returned (.agg #[.string s.code,.int .i64 s.employee,.int .i64 s.employer,.int .i64 s.floor,.int .i64 s.ceiling,.int .i64 s.unit,.int .i64 s.mode,.bool s.deductible])∧s.code = code∧DrawnS s∧DeckIn w' b (M+10)∧w.grownBy w' (some b):=by
 have hlt:=hd.lt
 go_enter Tryz.func117,Tryz.ntmps117
 go_wp2_with fail
 have hL0:=lit_ints (w.alloc (.cells #[.string ⟨#[]⟩,.int .i64 0,.int .i64 0,.int .i64 0,.int .i64 0,.int .i64 0,.int .i64 0,.bool false] 123)) [75000,93000,0,12345,200000] #[.int .i64 75000,.int .i64 93000,.int .i64 0,.int .i64 12345,.int .i64 200000] rfl
 rw [show (w.alloc (.cells #[.string ⟨#[]⟩,.int .i64 0,.int .i64 0,.int .i64 0,.int .i64 0,.int .i64 0,.int .i64 0,.bool false] 123)).heap.size = w.heap.size+1 from World.size_alloc _ _] at hL0
 refine (pick_any b M _ (some ⟨w.heap.size+1,0,none⟩) [75000,93000,0,12345,200000] 5 (by omega) ((hd.alloc _).alloc _) (by simp) (by simp) hL0 (by intro a ha; injection ha with ha; subst ha; show w.heap.size+1 ≠ b; omega)).mono ?_
 clear hL0
 rintro e w1 ⟨r1,rfl,hm1,hd1,hg1⟩
 go_wp2_with fail
 refine (pick_new b (M+1) w1 [80000,93000,0,200000] _ _ _ rfl rfl (by omega) hd1 (by simp) (by simp)).mono ?_
 rintro e w2 ⟨r2,rfl,hm2,hd2,hg2⟩
 go_wp2_with fail
 refine (pick_new b (M+1+1) w2 [500000,300000,100,1,1000000000] _ _ _ rfl rfl (by omega) hd2 (by simp) (by simp)).mono ?_
 rintro e w3 ⟨r3,rfl,hm3,hd3,hg3⟩
 go_wp2_with fail
 refine (pick_new b (M+1+1+1) w3 [1,1,1,5,100] _ _ _ rfl rfl (by omega) hd3 (by simp) (by simp)).mono ?_
 rintro e w4 ⟨r4,rfl,hm4,hd4,hg4⟩
 go_wp2_with fail
 refine (mode_any b (M+1+1+1+1) _ (by omega) hd4).mono ?_
 rintro e w5 ⟨r5,rfl,ha5,hb5,hd5,hg5⟩
 go_wp2_with fail
 refine (next_any b (M+1+1+1+1+1) _ _ (by omega) (by omega) (by omega) hd5).mono ?_
 rintro e w6 ⟨r6,rfl,ha6,hb6,hd6,hg6⟩
 have hR:=((((((Blk.new w 123 #[.string ⟨#[]⟩,.int .i64 0,.int .i64 0,.int .i64 0,.int .i64 0,.int .i64 0,.int .i64 0,.bool false]).alloc _).grown hg1 (by intro e; injection e; omega)).grown hg2 (by intro e; injection e; omega)).grown hg3 (by intro e; injection e; omega)).grown hg4 (by intro e; injection e; omega)).grown hg5 (by intro e; injection e; omega) |>.grown hg6 (by intro e; injection e; omega)
 have hG:w.grownBy w6 (some b):=only_trans (only_trans (only_trans (only_trans (only_trans (only_trans (only_alloc (only_alloc (only_refl _ _) _) _) hg1) hg2) hg3) hg4) hg5) hg6
 have hdr1:0≤r1∧r1≤200000:=by simp at hm1; omega
 have hdr2:0≤r2∧r2≤200000:=by simp at hm2; omega
 have hdr3:1≤r3∧r3≤1000000000:=by simp at hm3; omega
 have hdr4:1≤r4∧r4≤100:=by simp at hm4; omega
 have hlr:=hR.lt
 clear hg1 hg2 hg3 hg4 hg5 hg6 hd1 hd2 hd3 hd4 hd5 hd hm1 hm2 hm3 hm4
 obtain ⟨dd,hdd⟩ : ∃ dd,(r6 == 0) = dd:=⟨_,rfl⟩
 have hX0:=Blk.new w6 123 #[.string code,.int .i64 r1,.int .i64 r2,.int .i64 0,.int .i64 r3,.int .i64 r4,.int .i64 r5,.bool dd]
 have hR0:=hR.alloc (Obj.cells #[.string code,.int .i64 r1,.int .i64 r2,.int .i64 0,.int .i64 r3,.int .i64 r4,.int .i64 r5,.bool dd] 123)
 have hd0:=hd6.alloc (Obj.cells #[.string code,.int .i64 r1,.int .i64 r2,.int .i64 0,.int .i64 r3,.int .i64 r4,.int .i64 r5,.bool dd] 123)
 have hG0:=only_alloc hG (Obj.cells #[.string code,.int .i64 r1,.int .i64 r2,.int .i64 0,.int .i64 r3,.int .i64 r4,.int .i64 r5,.bool dd] 123)
 go_wp2_with fail
 refine (next_any b (M+1+1+1+1+1+1) _ _ (by omega) (by omega) (by omega) hd0).mono ?_
 rintro e w7 ⟨r7,rfl,ha7,hb7,hd7,hg7⟩
 have hlW:w6.heap.size < w7.heap.size:=by have:=hX0.lt; have:=hg7.size; omega
 have hgR:w.heap.size ≠ w6.heap.size:=by omega
 have hbg:b < w6.heap.size:=by have:=hd6.lt; omega
 have hX7:=hX0.grown hg7 (by intro e; injection e; omega)
 have hR7:=hR0.grown hg7 (by intro e; injection e; omega)
 have hG7:=only_trans hG0 hg7
 clear hX0 hR0 hd0 hG0 hg7 hd6 hG hR
 generalize w6.heap.size = g at *
 by_cases h7:r7 = 0
 ·
  subst h7
  go_upto_region 3 with fail
  have hX0:=hX7
  have hR0:=hR7
  have hd0:=hd7
  have hG0:=hG7
  clear hX7 hR7 hd7 hG7
  generalize w7 = w0 at *
  refine M3.wp_region_sel (C:=BlkM g 123 (fun m=>#[.string code,.int .i64 r1,.int .i64 r2,m,.int .i64 r3,.int .i64 r4,.int .i64 r5,.bool dd])) (BlkM.stable _ _ _) ⟨_,hX0⟩ (aE:=?aE) [0,1,2,3,4] 5 (by kernel_rfl) (by kernel_rfl) rfl (by kernel_rfl) (by kernel_rfl) (by rfl) ?H ?M
  case H =>
   intro F hF inst
   simp only [M3.opsAt,List.getElem?_toArray,List.getElem?_cons_zero,List.getElem?_cons_succ]
   have e0:∀ p:BwC (BlkM g 123 (fun m=>#[.string code,.int .i64 r1,.int .i64 r2,m,.int .i64 r3,.int .i64 r4,.int .i64 r5,.bool dd])) F,p.w'.cell? ⟨g,4,none⟩ = some (.int .i64 r3):=fun p=>by
    obtain ⟨m,h⟩:=p.h
    exact (h.cell 4).trans rfl
   repeat (first | go_big_quiet_step (fail))
   refine wpQuiet_nil ?_
   rfl
  case M =>
   intro Q0 hQ0
   refine M3.mix_step [5] (by kernel_rfl) (by simp) ?_
   intro w11 hC11 hb11 i hi
   simp only [nqj,nqk,or_false] at hi
   subst hi
   have hX11:=hX0.adv hb11
   have hR11:=hR0.adv hb11
   have hd11:=hd0.bel hb11
   have hG11:=only_adv hG0 hb11
   clear hb11 hX0 hR0 hd0 hG0
   refine M3.mix_val (.slice (some ⟨w11.heap.size,0,none⟩) 4 4) (w11.alloc (.cells #[.int .i64 1,.int .i64 45000,.int .i64 100,.int .i64 r3] 3)) rfl rfl (by go_simp) ⟨⟨_,hX11.alloc _⟩,?_⟩
   simp only [Act.put,nqa,nqb,nqc,nqd,nqe,nqf]
   have hL12:=lit_ints w11 [1,45000,100,r3] #[.int .i64 1,.int .i64 45000,.int .i64 100,.int .i64 r3] rfl
   have hX12:=hX11.alloc (.cells #[.int .i64 1,.int .i64 45000,.int .i64 100,.int .i64 r3] 3)
   have hR12:=hR11.alloc (.cells #[.int .i64 1,.int .i64 45000,.int .i64 100,.int .i64 r3] 3)
   have hd12:=hd11.alloc (.cells #[.int .i64 1,.int .i64 45000,.int .i64 100,.int .i64 r3] 3)
   have hG12:=only_alloc hG11 (.cells #[.int .i64 1,.int .i64 45000,.int .i64 100,.int .i64 r3] 3)
   have hq12:b < w11.heap.size:=hd11.lt
   clear hC11 hX11 hR11 hd11 hG11
   generalize w11.alloc (.cells #[.int .i64 1,.int .i64 45000,.int .i64 100,.int .i64 r3] 3) = w12 at *
   generalize w11.heap.size = q at *
   refine M3.mix_step [6] (by kernel_rfl) (by simp) ?_
   intro w13 hC13 hb13 i hi
   simp only [nqj,nqk,or_false] at hi
   subst hi
   have hX13:=hX12.adv hb13
   have hR13:=hR12.adv hb13
   have hd13:=hd12.bel hb13
   have hG13:=only_adv hG12 hb13
   have hL13:=hL12.adv hb13
   clear hb13 hX12 hR12 hd12 hG12 hL12
   refine M3.mix_call 66 #[.pointer (some ⟨b,0,none⟩),.slice (some ⟨q,0,none⟩) 4 4] rfl rfl (by go_simp) ?_
   refine (pick_any b (M+1+1+1+1+1+1+1) w13 (some ⟨q,0,none⟩) [1,45000,100,r3] 4 (by omega) hd13 (by simp) (by simp) hL13 (by intro a ha; injection ha with ha; subst ha; show q ≠ b; omega)).mono ?_
   rintro e w14 ⟨r14,rfl,hm14,hd14,hg14⟩
   have hX14:=hX13.grown hg14 (by intro e; injection e; omega)
   have hR14:=hR13.grown hg14 (by intro e; injection e; omega)
   have hG14:=only_trans hG13 hg14
   refine ⟨_,rfl,⟨_,hX14⟩,?_⟩
   simp only [Act.put,nqa,nqb,nqc,nqd,nqe,nqf]
   clear hg14 hC13 hd13 hX13 hR13 hG13
   clear hL13
   refine M3.mix_step [7] (by kernel_rfl) (by simp) ?_
   intro w15 hC15 hb15 i hi
   simp only [nqj,nqk,or_false] at hi
   subst hi
   have hX15:=hX14.adv hb15
   have hR15:=hR14.adv hb15
   have hd15:=hd14.bel hb15
   have hG15:=only_adv hG14 hb15
   clear hb15 hX14 hR14 hd14 hG14
   have hdr14:0≤r14:=by simp at hm14; omega
   obtain ⟨m,hm,hm0,hm1⟩ : ∃ m:Int,(m = if r14 < r3 then r14 else r3)∧0≤m∧m≤r3:=⟨_,rfl,by split <;> omega,by split <;> omega⟩
   clear hm14
   refine M3.mix_val (.int .i64 m) w15 rfl rfl (by subst hm; split <;> rename_i hle <;> go_simp <;> omega) ⟨hC15,?_⟩
   simp only [Act.put,nqa,nqb,nqc,nqd,nqe,nqf]
   clear hm hC15
   refine M3.mix_step [8] (by kernel_rfl) (by simp) ?_
   intro w19 hC19 hb19 i hi
   simp only [nqj,nqk,or_false] at hi
   subst hi
   have hX19:=hX15.adv hb19
   have hR19:=hR15.adv hb19
   have hd19:=hd15.bel hb19
   have hG19:=only_adv hG15 hb19
   clear hb19 hX15 hR15 hd15 hG15
   refine M3.mix_val (.pointer (some ⟨g,3,none⟩)) w19 rfl rfl (by go_simp) ⟨hC19,?_⟩
   simp only [Act.put,nqa,nqb,nqc,nqd,nqe,nqf]
   clear hC19
   refine M3.mix_step [9] (by kernel_rfl) (by simp) ?_
   intro w16 hC16 hb16 i hi
   simp only [nqj,nqk,or_false] at hi
   subst hi
   have hX16:=hX19.adv hb16
   have hR16:=hR19.adv hb16
   have hd16:=hd19.bel hb16
   have hG16:=only_adv hG19 hb16
   clear hb16 hX19 hR19 hd19 hG19
   have z:=hX16.cell 3
   have fz:=hX16.frozen 3
   have lg:=hX16.lt
   simp only [nqg,nqh,nqi] at z
   have hX17:=hX16.set_ 3 (.int .i64 m)
   simp only [List.setIfInBounds_toArray,List.set_cons_succ,List.set_cons_zero] at hX17
   have hR17:=hR16.far (p:=⟨g,3,none⟩) hgR (.int .i64 m)
   have hd17:=hd16.set hbg 3 (.int .i64 m)
   have hG17:=only_setCell (p:=⟨g,3,none⟩) hG16 (.inr (by show w.heap.size≤g; omega)) (.int .i64 m)
   refine M3.mix_skip (w16.setCell ⟨g,3,none⟩ (.int .i64 m)) rfl rfl (by go_simp) ⟨⟨_,hX17⟩,?_⟩
   simp only [Act.put,nqa,nqb,nqc]
   clear z fz lg hX16 hR16 hd16 hG16 hC16
   generalize w16.setCell ⟨g,3,none⟩ (.int .i64 m) = w17 at *
   refine M3.mix_end (by kernel_rfl) ?_
   intro w18 hC18 hb18
   refine hQ0 _ _ ?_
   have hX18:=hX17.adv hb18
   have hR18:=hR17.adv hb18
   have hd18:=hd17.bel hb18
   have hG18:=only_adv hG17 hb18
   clear hb18 hC18 hQ0 hX17 hR17 hd17 hG17
   have x0:=hX18.cell 0
   have x1:=hX18.cell 1
   have x2:=hX18.cell 2
   have x3:=hX18.cell 3
   have x4:=hX18.cell 4
   have x5:=hX18.cell 5
   have x6:=hX18.cell 6
   have x7:=hX18.cell 7
   simp only [nqg,nqh,nqi] at x0 x1 x2 x3 x4 x5 x6 x7
   have l1:=hX18.lt
   clear hX18
   have y0:=hR18.cell 0
   have y1:=hR18.cell 1
   have y2:=hR18.cell 2
   have y3:=hR18.cell 3
   have y4:=hR18.cell 4
   have y5:=hR18.cell 5
   have y6:=hR18.cell 6
   have y7:=hR18.cell 7
   simp only [nqg,nqh,nqi] at y0 y1 y2 y3 y4 y5 y6 y7
   have fy0:=hR18.frozen 0
   have fy1:=hR18.frozen 1
   have fy2:=hR18.frozen 2
   have fy3:=hR18.frozen 3
   have fy4:=hR18.frozen 4
   have fy5:=hR18.frozen 5
   have fy6:=hR18.frozen 6
   have fy7:=hR18.frozen 7
   have l2:=hR18.lt
   have hfin:=hR18.fill [.string code,.int .i64 r1,.int .i64 r2,.int .i64 m,.int .i64 r3,.int .i64 r4,.int .i64 r5,.bool dd] rfl
   simp only [putAll,Nat.zero_add,Nat.reduceAdd] at hfin
   have hdF:=(DeckIn.set (DeckIn.set (DeckIn.set (DeckIn.set (DeckIn.set (DeckIn.set (DeckIn.set (DeckIn.set hd18 (g:=w.heap.size) hlt 0 (.string code)) (g:=w.heap.size) hlt 1 (.int .i64 r1)) (g:=w.heap.size) hlt 2 (.int .i64 r2)) (g:=w.heap.size) hlt 3 (.int .i64 m)) (g:=w.heap.size) hlt 4 (.int .i64 r3)) (g:=w.heap.size) hlt 5 (.int .i64 r4)) (g:=w.heap.size) hlt 6 (.int .i64 r5)) (g:=w.heap.size) hlt 7 (.bool dd))
   have hGF:=(only_setCell (p:=⟨w.heap.size,7,none⟩) (only_setCell (p:=⟨w.heap.size,6,none⟩) (only_setCell (p:=⟨w.heap.size,5,none⟩) (only_setCell (p:=⟨w.heap.size,4,none⟩) (only_setCell (p:=⟨w.heap.size,3,none⟩) (only_setCell (p:=⟨w.heap.size,2,none⟩) (only_setCell (p:=⟨w.heap.size,1,none⟩) (only_setCell (p:=⟨w.heap.size,0,none⟩) hG18 (.inr (Nat.le_refl _)) (.string code)) (.inr (Nat.le_refl _)) (.int .i64 r1)) (.inr (Nat.le_refl _)) (.int .i64 r2)) (.inr (Nat.le_refl _)) (.int .i64 m)) (.inr (Nat.le_refl _)) (.int .i64 r3)) (.inr (Nat.le_refl _)) (.int .i64 r4)) (.inr (Nat.le_refl _)) (.int .i64 r5)) (.inr (Nat.le_refl _)) (.bool dd))
   clear hR18 hd18 hG18
   go_wp2_with fail
   generalize World.setCell _ ⟨w.heap.size,7,none⟩ _ = WW at hfin hdF hGF ⊢
   have q0:=hfin.cell 0
   have q1:=hfin.cell 1
   have q2:=hfin.cell 2
   have q3:=hfin.cell 3
   have q4:=hfin.cell 4
   have q5:=hfin.cell 5
   have q6:=hfin.cell 6
   have q7:=hfin.cell 7
   simp only [nqg,nqh,nqi] at q0 q1 q2 q3 q4 q5 q6 q7
   refine bodyPost_ret (v:=.agg #[.string code,.int .i64 r1,.int .i64 r2,.int .i64 m,.int .i64 r3,.int .i64 r4,.int .i64 r5,.bool dd]) ?_ rfl (⟨⟨code,r1,r2,m,r3,r4,r5,dd⟩,rfl,rfl,⟨hdr1,hdr2,hdr3,⟨hm0,hm1⟩,hdr4,ha5,hb5⟩,hdF.mono (by omega),hGF⟩)
   simp [results,Tryz.results117,go_sem,q0,q1,q2,q3,q4,q5,q6,q7]
 ·
  have h7':(r7 == 0) = false:=by simpa using h7
  clear h7
  have x0:=hX7.cell 0
  have x1:=hX7.cell 1
  have x2:=hX7.cell 2
  have x3:=hX7.cell 3
  have x4:=hX7.cell 4
  have x5:=hX7.cell 5
  have x6:=hX7.cell 6
  have x7:=hX7.cell 7
  simp only [nqg,nqh,nqi] at x0 x1 x2 x3 x4 x5 x6 x7
  have l1:=hX7.lt
  clear hX7
  have y0:=hR7.cell 0
  have y1:=hR7.cell 1
  have y2:=hR7.cell 2
  have y3:=hR7.cell 3
  have y4:=hR7.cell 4
  have y5:=hR7.cell 5
  have y6:=hR7.cell 6
  have y7:=hR7.cell 7
  simp only [nqg,nqh,nqi] at y0 y1 y2 y3 y4 y5 y6 y7
  have fy0:=hR7.frozen 0
  have fy1:=hR7.frozen 1
  have fy2:=hR7.frozen 2
  have fy3:=hR7.frozen 3
  have fy4:=hR7.frozen 4
  have fy5:=hR7.frozen 5
  have fy6:=hR7.frozen 6
  have fy7:=hR7.frozen 7
  have l2:=hR7.lt
  have hfin:=hR7.fill [.string code,.int .i64 r1,.int .i64 r2,.int .i64 0,.int .i64 r3,.int .i64 r4,.int .i64 r5,.bool dd] rfl
  simp only [putAll,Nat.zero_add,Nat.reduceAdd] at hfin
  have hdF:=(DeckIn.set (DeckIn.set (DeckIn.set (DeckIn.set (DeckIn.set (DeckIn.set (DeckIn.set (DeckIn.set hd7 (g:=w.heap.size) hlt 0 (.string code)) (g:=w.heap.size) hlt 1 (.int .i64 r1)) (g:=w.heap.size) hlt 2 (.int .i64 r2)) (g:=w.heap.size) hlt 3 (.int .i64 0)) (g:=w.heap.size) hlt 4 (.int .i64 r3)) (g:=w.heap.size) hlt 5 (.int .i64 r4)) (g:=w.heap.size) hlt 6 (.int .i64 r5)) (g:=w.heap.size) hlt 7 (.bool dd))
  have hGF:=(only_setCell (p:=⟨w.heap.size,7,none⟩) (only_setCell (p:=⟨w.heap.size,6,none⟩) (only_setCell (p:=⟨w.heap.size,5,none⟩) (only_setCell (p:=⟨w.heap.size,4,none⟩) (only_setCell (p:=⟨w.heap.size,3,none⟩) (only_setCell (p:=⟨w.heap.size,2,none⟩) (only_setCell (p:=⟨w.heap.size,1,none⟩) (only_setCell (p:=⟨w.heap.size,0,none⟩) hG7 (.inr (Nat.le_refl _)) (.string code)) (.inr (Nat.le_refl _)) (.int .i64 r1)) (.inr (Nat.le_refl _)) (.int .i64 r2)) (.inr (Nat.le_refl _)) (.int .i64 0)) (.inr (Nat.le_refl _)) (.int .i64 r3)) (.inr (Nat.le_refl _)) (.int .i64 r4)) (.inr (Nat.le_refl _)) (.int .i64 r5)) (.inr (Nat.le_refl _)) (.bool dd))
  clear hR7 hd7 hG7
  go_wp2_with fail
  generalize World.setCell _ ⟨w.heap.size,7,none⟩ _ = WW at hfin hdF hGF ⊢
  have q0:=hfin.cell 0
  have q1:=hfin.cell 1
  have q2:=hfin.cell 2
  have q3:=hfin.cell 3
  have q4:=hfin.cell 4
  have q5:=hfin.cell 5
  have q6:=hfin.cell 6
  have q7:=hfin.cell 7
  simp only [nqg,nqh,nqi] at q0 q1 q2 q3 q4 q5 q6 q7
  refine bodyPost_ret (v:=.agg #[.string code,.int .i64 r1,.int .i64 r2,.int .i64 0,.int .i64 r3,.int .i64 r4,.int .i64 r5,.bool dd]) ?_ rfl (⟨⟨code,r1,r2,0,r3,r4,r5,dd⟩,rfl,rfl,⟨hdr1,hdr2,hdr3,⟨by show (0:Int)≤0; omega,by show (0:Int)≤r3; omega⟩,hdr4,ha5,hb5⟩,hdF.mono (by omega),hGF⟩)
  simp [results,Tryz.results117,go_sem,q0,q1,q2,q3,q4,q5,q6,q7]
end Go.Proofs.YtlhkojcmcmkmaaaGreat
