/- Joined texts: TgZn. Conditions: as stated. -/
import Derived.Deep.DeepCutAuto
import Derived.Test.YtopekilofdadnaaGreatDoorJLeaf
import Derived.Test.YtopekilofdadnaaGreatDoorJTgE
import Derived.Test.YtopekilofdadnaaGreatDoorJMix2
import Derived.Test.YtopekilofdadnaaGreatDoorJBlkOps
import Derived.Test.YtopekilofdadnaaGreatDoorJTgQ
namespace Go.Proofs.YtopekilofdadnaaGreatDoor
open Go.RowKit
theorem stable_blkZ (g:Nat) (t:TypeId) (cs:Array Value) : Stable (fun w'=>Blk w' g t cs):=fun _ _ h hb=>h.adv hb
structure ZnOk (ch:List ChT) (at_:Int) : Prop where
 r:∀ c ∈ ch,(0≤c.at_∧c.at_ < at_)∧-840≤c.off∧c.off≤840
 asc:ch.Pairwise (fun a b=>a.at_ < b.at_)
theorem ZnOk.snoc {ch:List ChT} {a a' o : Int} (h:ZnOk ch a) (h0:0≤a) (h1:a < a') (o1 : -840≤o) (o2:o≤840) : ZnOk (ch++[⟨a,o⟩]) a':=by
 refine ⟨fun c hc=>?_,List.pairwise_append.2 ⟨h.asc,List.pairwise_singleton _ _,fun x hx y hy=>?_⟩⟩
 ·
  rcases List.mem_append.1 hc with hc | hc
  ·
   have:=h.r c hc
   omega
  ·
   rw [List.mem_singleton] at hc
   subst hc
   exact ⟨⟨h0,h1⟩,o1,o2⟩
 ·
  rw [List.mem_singleton] at hy
  subst hy
  exact (h.r x hx).1.2
def ZonePost (b:Nat) (w:World) (e:Ending) (w' : World) : Prop :=
 ∃ z:ZoneM,e = .returned z.val∧ZoneOk z.t∧(∀ c ∈ z.ch,c.at_≤30000000)∧Own encCh 2 87 w' w.heap.size (.slice z.A z.ch.length z.c) z.ch∧TapeIn w' b∧w.grownBy w' (some b)
structure ZnAt (w0 w : World) (b g R : Nat) (off:Int) (V:Value) (ch:List ChT) : Prop where
 blk:Blk w g 27 #[.int .i64 off,V]
 res:Blk w R 27 #[.int .i64 0,.slice none 0 0]
 own:Own encCh 2 87 w w0.heap.size V ch
 tape:TapeIn w b
 grown:w0.grownBy w (some b)
theorem ZnAt.next {w0 w w' : World} {b g R : Nat} {off:Int} {V:Value} {ch:List ChT} (h:ZnAt w0 w b g R off V ch) (hb:b < w0.heap.size) (hg:w0.heap.size≤g) (hR:w0.heap.size≤R) (ht:TapeIn w' b) (hG:w.grownBy w' (some b)) : ZnAt w0 w' b g R off V ch :=
 ⟨h.blk.grown hG (fun e=>by injection e; omega),h.res.grown hG (fun e=>by injection e; omega),h.own.kept hG (fun q e=>by injection e; omega),ht,only_trans h.grown hG⟩
theorem ZnAt.adv {w0 w w' : World} {b g R : Nat} {off:Int} {V:Value} {ch:List ChT} (h:ZnAt w0 w b g R off V ch) (hb:Below w.heap.size w w') : ZnAt w0 w' b g R off V ch :=
 ⟨h.blk.adv hb,h.res.adv hb,h.own.adv hb,h.tape.grown (only_of_below hb none) (fun q e=>by cases e),only_trans h.grown (only_of_below hb _)⟩
theorem ZnAt.alloc {w0 w : World} {b g R : Nat} {off:Int} {V:Value} {ch:List ChT} (h:ZnAt w0 w b g R off V ch) (o:Obj) : ZnAt w0 (w.alloc o) b g R off V ch:=h.adv (below_new w o)
theorem ZnAt.set {w0 w w2 : World} {b g R : Nat} {off:Int} {V V' : Value} {ch ch' : List ChT} (h:ZnAt w0 w b g R off V ch) (hb:b < w0.heap.size) (hg:w0.heap.size≤g) (hgR:R ≠ g) (ho:Own encCh 2 87 w2 w0.heap.size V' ch') (hG:w.grownBy w2 V.ownBlock) :
  ZnAt w0 (w2.setCell ⟨g,1,none⟩ V') b g R off V' ch':=by
 have hV:∀ q,V.ownBlock = some q→w0.heap.size≤q:=fun q e=>(h.own.block_lt e).1
 have h1:Blk w2 g 27 #[.int .i64 off,V]:=h.blk.grown hG (fun e=>h.own.notBlk h.blk (by decide) e.symm)
 have h2:Blk w2 R 27 #[.int .i64 0,.slice none 0 0]:=h.res.grown hG (fun e=>h.own.notBlk h.res (by decide) e.symm)
 have h3:TapeIn w2 b:=h.tape.grown hG (fun q e=>by have:=hV q e; omega)
 have h4:w0.grownBy w2 (some b):=only_then h.grown hG (fun q e=>.inl (hV q e))
 have hs:=only_setCell (only_refl w2 (some g)) (p:=⟨g,1,none⟩) (.inl rfl) V'
 refine ⟨?_,h2.far (p:=⟨g,1,none⟩) hgR V',ho.keptNe hs (fun q hq e=>by injection e with e; exact ho.notBlk h1 (by decide) (by rw [hq,e])),h3.grown hs (fun q e=>by injection e; omega),only_then h4 hs (fun q e=>by injection e with e; exact .inl (by omega))⟩
 have:=h1.set_ 1 V'
 simpa using this
section
set_option maxHeartbeats 4000000
set_option maxRecDepth 100000
theorem zoneG (b:Nat) (w:World) (hd:TapeIn w b) : Calls Tryz.prog 6 #[.pointer (some ⟨b,0,none⟩)] w (ZonePost b w):=by
 have hlt:=hd.lt
 have hR0:=Blk.new w 27 #[.int .i64 0,.slice none 0 0]
 have hd0:=hd.alloc (.cells #[.int .i64 0,.slice none 0 0] 27)
 have hg0:=only_alloc (only_refl w (some b)) (.cells #[.int .i64 0,.slice none 0 0] 27)
 go_enter Tryz.func6,Tryz.ntmps6
 go_wp2_with fail
 rw [← World.size_alloc w (.cells #[.int .i64 0,.slice none 0 0] 27)]
 refine (pickN b (w.alloc (.cells #[.int .i64 0,.slice none 0 0] 27)) [0,60,-300,840,-840,570] _ _ _ rfl rfl hd0 (by simp) (by simp)).mono ?_
 rintro e w1 ⟨off,rfl,hm1,hd1,hg1⟩
 have hq1 : -840≤off∧off≤840:=by simp at hm1; omega
 have hR1:=hR0.grown hg1 (fun e=>by injection e; omega)
 have hgw1:=only_trans hg0 hg1
 have hs1:=hg1.size
 rw [World.size_alloc] at hs1
 have hZ1:ZnAt w (w1.alloc (.cells #[.int .i64 off,.slice none 0 0] 27)) b w1.heap.size w.heap.size off (.slice none 0 0) [] :=
  ⟨Blk.new _ _ _,hR1.alloc _,Own.nil_ _ _,hd1.alloc _,only_alloc hgw1 _⟩
 clear hR0 hd0 hg0 hm1 hg1 hR1 hgw1 hd hd1
 go_wp2_with fail
 generalize hwz:w1.alloc (.cells #[.int .i64 off,.slice none 0 0] 27) = wz at hZ1
 have hsz:wz.heap.size = w1.heap.size+1:=by rw [← hwz]; simp
 rw [← hsz]
 refine (pickN b wz [0,29453760,29455200,29456700,29453060] _ _ _ rfl rfl hZ1.tape (by simp) (by simp)).mono ?_
 rintro e w2 ⟨a0,rfl,hm2,hd2,hg2⟩
 have hq2:0≤a0∧a0≤29456700:=by simp at hm2; omega
 have hZ2:=hZ1.next hlt (by omega) (Nat.le_refl _) hd2 hg2
 clear hm2 hg2 hd2 hZ1 hwz
 go_wp2_with fail
 refine (nextT b _ _ (by omega) (by omega) hZ2.tape).mono ?_
 rintro e w3 ⟨n0,rfl,h0,h1,hd3,hg3⟩
 have hZ3:=hZ2.next hlt (by omega) (Nat.le_refl _) hd3 hg3
 obtain ⟨N,rfl⟩:=Int.eq_ofNat_of_zero_le h0
 have hgR:w.heap.size ≠ w1.heap.size:=by omega
 generalize hgz:w1.heap.size = g at *
 clear hgz hg3 hd3 hZ2 h0
 go_wp2
 go_loopw [4,5] (fun a i wr=>∃ (m:Nat) (AT:Int) (V:Value) (ch:List ChT),a = .int .i64 AT∧i = .int .i64 m∧ch.length+m≤3∧0≤AT∧AT+4320 * m≤29469660∧Hid (ZnOk ch AT)∧Hid (ZnAt w wr b g w.heap.size off V ch)) (fun _ i _=>(intOf i).toNat)
 case atStart=>exact ⟨N,a0,_,[],rfl,rfl,by simp; omega,by omega,by omega,⟨fun c hc=>(by cases hc),List.Pairwise.nil⟩,hZ3⟩
 case round =>
  clear hZ3 h1 hsz hq2
  obtain ⟨m,AT,V,ch,rfl,rfl,hl,hA0,hA1,HOK,HZ⟩:=hrel
  have hbs:=HZ.out.grown.size
  have hbg:b < wr.heap.size:=by omega
  have hB:=HZ.out.blk
  have hgl:=hB.lt
  have hgw:w.heap.size≤g:=by omega
  by_cases hm0:0 < m
  ·
   go_upto_region 6 with fail
   refine M5.wp_region_sel (C:=fun w'=>Blk w' g 27 #[.int .i64 off,V]) (stable_blkZ _ _ _) hB (aE:=?aE1) [0,1,2,3] 7 10 (by kernel_rfl) (by kernel_rfl) rfl (by kernel_rfl) (by rfl) ?H1 ?M1
   case H1 =>
    intro F hF inst
    simp only [M3.opsAt,List.getElem?_toArray,List.getElem?_cons_zero,List.getElem?_cons_succ]
    have e0:∀ p:BwC (fun w'=>Blk w' g 27 #[.int .i64 off,V]) F,p.w'.cell? ⟨g,1,none⟩ = some V:=fun p=>(Blk.cell p.h 1).trans rfl
    repeat (first | go_big_quiet_step (fail))
    refine wpQuiet_nil ?_
    rfl
   case M1 =>
    intro Q0 hQ0
    refine M5.mix_one 4 (by kernel_rfl) (by decide) ?_
    intro w4 hC4 hb4
    have hZ4:=HZ.out.adv hb4
    have hw4:=hb4.size
    refine M3.mix_val (.slice (some ⟨w4.heap.size,0,none⟩) 6 6) (w4.alloc (.cells #[.int .i64 60,.int .i64 120,.int .i64 0,.int .i64 (-300),.int .i64 840,.int .i64 (-840)] 3)) rfl rfl (by go_simp) ⟨hC4.alloc _,?_⟩
    simp only [Act.put,nqa,nqb,nqc,nqd,nqe,nqf]
    refine M5.mix_one 5 (by kernel_rfl) (by decide) ?_
    intro w5 hC5 hb5
    have hL5:=((SliceOf.new encIn_len w4 [60,120,0,-300,840,-840] #[.int .i64 60,.int .i64 120,.int .i64 0,.int .i64 (-300),.int .i64 840,.int .i64 (-840)] 3 rfl).below (by simpa using hb5)).more (B':=w5.heap.size) (by simpa using hb5.size)
    have hZ5:=(hZ4.alloc (.cells #[.int .i64 60,.int .i64 120,.int .i64 0,.int .i64 (-300),.int .i64 840,.int .i64 (-840)] 3)).adv hb5
    refine M3.mix_call 11 #[.pointer (some ⟨b,0,none⟩),.slice (some ⟨w4.heap.size,0,none⟩) 6 6] rfl rfl (by go_simp) ?_
    refine (pickT b w5 (some ⟨w4.heap.size,0,none⟩) [60,120,0,-300,840,-840] 6 hZ5.tape (by simp) (by simp) hL5 (by intro a ha; injection ha with ha; subst ha; show w4.heap.size ≠ b; omega)).mono ?_
    rintro e w6 ⟨o,rfl,hmo,hd6,hg6⟩
    have hqo : -840≤o∧o≤840:=by simp at hmo; omega
    have hZ6:=hZ5.next hlt hgw (Nat.le_refl _) hd6 hg6
    refine ⟨_,rfl,hZ6.blk,?_⟩
    simp only [Act.put,nqa,nqb,nqc,nqd,nqe,nqf]
    clear hmo hd6 hg6 hZ5 hL5 hC5 hb5 hZ4 hC4 hb4
    refine M5.mix_take 6 (.agg #[.int .i64 AT,.int .i64 o]) (by kernel_rfl) rfl (by kernel_rfl) rfl (fun _=>by go_simp) ?_
    simp only [Act.put,nqa,nqb,nqc,nqd,nqe,nqf]
    refine M5.mix_one 7 (by kernel_rfl) (by decide) ?_
    intro w7 hC7 hb7
    have hZ7:=hZ6.adv hb7
    refine M3.mix_val (.slice (some ⟨w7.heap.size,0,none⟩) 1 1) (w7.alloc (.cells #[.int .i64 AT,.int .i64 o] 87)) rfl rfl (by go_simp) ⟨hC7.alloc _,?_⟩
    simp only [Act.put,nqa,nqb,nqc,nqd,nqe,nqf]
    refine M5.mix_one 8 (by kernel_rfl) (by decide) ?_
    intro w8 hC8 hb8
    have hY8:=((SliceOf.new encCh_len w7 [(⟨AT,o⟩ : ChT)] #[.int .i64 AT,.int .i64 o] 87 rfl).below (by simpa using hb8)).more (B':=w8.heap.size) (by simpa using hb8.size)
    have hZ8:=(hZ7.alloc (.cells #[.int .i64 AT,.int .i64 o] 87)).adv hb8
    refine M3.mix_append _ _ 25 1 16 _ infoCh Tryz.underlying25 hZ8.own hY8 encCh_len (by omega) rfl encCh_one (by simp; omega) (by omega) hZ8.grown.size rfl rfl rfl rfl rfl rfl ?_
    intro v9 w9 hown9 hg9
    obtain ⟨A9,c9,hv9⟩:=hown9.slice encCh_len
    subst hv9
    refine ⟨hZ8.blk.grown hg9 (fun e=>hZ8.own.notBlk hZ8.blk (by decide) e.symm),?_⟩
    simp only [Act.put,nqa,nqb,nqc,nqd,nqe,nqf]
    refine M5.mix_take 9 (.pointer (some ⟨g,1,none⟩)) (by kernel_rfl) rfl (by kernel_rfl) rfl (fun _=>by go_simp) ?_
    simp only [Act.put,nqa,nqb,nqc,nqd,nqe,nqf]
    refine M5.mix_last (by kernel_rfl) (by kernel_rfl) ?_
    intro w10 hC10 hb10
    have z:=hC10.cell 1
    have fz:=hC10.frozen 1
    have lg:=hC10.lt
    simp only [nqg,nqh,nqi] at z
    have HZ11:=Lib.hid (hZ8.set hlt hgw hgR (hown9.adv hb10) (only_adv hg9 hb10))
    refine M3.mix_skip (w10.setCell ⟨g,1,none⟩ (.slice A9 (ch++[(⟨AT,o⟩ : ChT)]).length c9)) rfl rfl (by go_simp) ?_
    simp only [Act.put,nqa,nqb,nqc]
    refine hQ0 _ _ ?_
    generalize w10.setCell ⟨g,1,none⟩ (.slice A9 (ch++[(⟨AT,o⟩ : ChT)]).length c9) = w11 at HZ11 ⊢
    clear z fz lg hC10 hb10 hg9 hown9 hZ8 hY8 hC8 hb8 hZ7 hC7 hb7 hZ6 hw4 hB hgl hQ0
    go_wp2_with fail
    refine (pickN b w11 [60,1440,30,4320,1] _ _ _ rfl rfl HZ11.out.tape (by simp) (by simp)).mono ?_
    rintro e w12 ⟨q,rfl,hmq,hd12,hg12⟩
    have hqq:1≤q∧q≤4320:=by simp at hmq; omega
    have HZ12:=Lib.hid (HZ11.out.next hlt hgw (Nat.le_refl _) hd12 hg12)
    have HOK2:=Lib.hid (HOK.out.snoc hA0 (show AT < AT+q by omega) hqo.1 hqo.2)
    clear hmq hd12 hg12
    go_wp2
    go_roundw
    case rel=>exact ⟨m - 1,AT+q,_,_,rfl,by congr 1; omega,by simp; omega,by omega,by omega,HOK2.out,HZ12.out⟩
    case measure=>simp [intOf]; omega
  ·
   obtain ⟨A9,c9,hv9⟩:=HZ.out.own.slice encCh_len
   subst hv9
   have hR:=HZ.out.res
   have hRl:=hR.lt
   have hch:ch.length≤3:=by omega
   have hfz:ZoneOk (ZoneM.mk off A9 c9 ch).t∧∀ c ∈ ch,c.at_≤30000000:=by
    refine ⟨⟨by show ch.length≤64; omega,hq1,fun c hc=>?_,HOK.out.asc⟩,fun c hc=>?_⟩
    ·
     have:=HOK.out.r c hc
     exact ⟨⟨this.1.1,by omega⟩,this.2⟩
    ·
     have:=HOK.out.r c hc
     omega
   have HFZ:=Lib.hid hfz
   have x0:=hB.cell 0
   have x1:=hB.cell 1
   simp only [nqg,nqh,nqi] at x0 x1
   clear hfz hB
   go_wp2_with (refine wpList_store_blk rfl _ _ _ rfl rfl w.heap.size (cs:=#[.int .i64 0,.slice none 0 0]) rfl rfl hR rfl (by kernel_rfl) rfl ?_; intro w6 hB6 hg6)
   have HO6:=Lib.hid (HZ.out.own.keptNe hg6 (fun q hq e=>HZ.out.own.notBlk hR (by decide) (by rw [hq]; exact e.symm)))
   have HD6:=Lib.hid (HZ.out.tape.grown hg6 (fun q e=>by injection e; omega))
   have HG6:=Lib.hid (only_then HZ.out.grown hg6 (fun q e=>by injection e with e; exact .inl (by omega)))
   have HB6:=Lib.hid hB6
   clear hg6 hB6 hR
   go_wp2
   exact bodyPost_ret (results_blk rfl rfl HB6.out Tryz.underlying27 rfl (by kernel_rfl)) rfl ⟨⟨off,A9,c9,ch⟩,rfl,HFZ.out.1,HFZ.out.2,HO6.out,HD6.out,HG6.out⟩
end
end Go.Proofs.YtopekilofdadnaaGreatDoor
