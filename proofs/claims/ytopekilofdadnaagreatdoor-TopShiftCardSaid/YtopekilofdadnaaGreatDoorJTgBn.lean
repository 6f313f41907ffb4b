/- Joined texts: TgBn. Conditions: as stated. -/
import Derived.Deep.DeepCutAuto
import Derived.Test.YtopekilofdadnaaGreatDoorJTgE
import Derived.Test.YtopekilofdadnaaGreatDoorJMix2
import Derived.Test.YtopekilofdadnaaGreatDoorJBlkOps
import Derived.Test.YtopekilofdadnaaGreatDoorJTgQ
import Derived.Test.YtopekilofdadnaaGreatDoorJTgO
import Derived.Test.YtopekilofdadnaaGreatDoorJTgF
namespace Go.Proofs.YtopekilofdadnaaGreatDoor
open Go.RowKit
theorem stable_blkB (g:Nat) (t:TypeId) (cs:Array Value) : Stable (fun w'=>Blk w' g t cs):=fun _ _ h hb=>h.adv hb
theorem ascB_snoc {b:BandT} (h1:b.after≤10080) (h2:NameOk b.name) : ∀ {l:List BandT} {lo:Int},ascB lo l→(∀ x ∈ l,x.after < b.after)→lo < b.after→ascB lo (l++[b])
 | [],_,_,_,h=>⟨h,h1,h2,trivial⟩
 | x :: l,_,h,hx,_=>⟨h.1,h.2.1,h.2.2.1,ascB_snoc h1 h2 h.2.2.2 (fun y hy=>hx y (by simp [hy])) (hx x (by simp))⟩
structure BdOk (l:List BandT) (at_:Int) : Prop where
 a:ascB (-1) l
 r:∀ x ∈ l,x.after < at_
theorem BdOk.snoc {l:List BandT} {a a' : Int} {nm:ByteArray} (h:BdOk l a) (h0:0≤a) (h1:a≤10080) (h2:a < a') (hn:NameOk nm) : BdOk (l++[⟨nm,a⟩]) a':=by
 refine ⟨ascB_snoc h1 hn h.a h.r (by show -1 < a; omega),fun x hx=>?_⟩
 rcases List.mem_append.1 hx with hx | hx
 ·
  have:=h.r x hx; omega
 ·
  rw [List.mem_singleton] at hx
  rw [hx]; exact h2
structure BdAt (w0 w : World) (b g R B : Nat) (f:Value→Array Value) (V:Value) (l:List BandT) (V1:Value) (l1:List BandT) : Prop where
 blk:Blk w g 48 (f V)
 res:Blk w R 48 #[.string ⟨#[]⟩,.slice none 0 0,.slice none 0 0]
 own:Own encBd 2 92 w B V l
 own1:Own encBd 2 92 w w0.heap.size V1 l1
 lt1:∀ q,V1.ownBlock = some q→q < B
 tape:TapeIn w b
 grown:w0.grownBy w (some b)
 ge:w0.heap.size≤B∧B≤w.heap.size
section
variable {w0 w w' w2:World} {b g R B:Nat} {f:Value→Array Value} {V V' V1:Value} {l l' l1:List BandT}
theorem BdAt.next (h:BdAt w0 w b g R B f V l V1 l1) (hb:b < w0.heap.size) (hg:w0.heap.size≤g) (hR:w0.heap.size≤R) (ht:TapeIn w' b) (hG:w.grownBy w' (some b)) : BdAt w0 w' b g R B f V l V1 l1 :=
 ⟨h.blk.grown hG (fun e=>by injection e; omega),h.res.grown hG (fun e=>by injection e; omega),h.own.kept hG (fun q e=>by injection e; have:=h.ge.1; omega),h.own1.kept hG (fun q e=>by injection e; omega),h.lt1,ht,only_trans h.grown hG,h.ge.1,Nat.le_trans h.ge.2 hG.size⟩
theorem BdAt.adv (h:BdAt w0 w b g R B f V l V1 l1) (hb:Below w.heap.size w w') : BdAt w0 w' b g R B f V l V1 l1 :=
 ⟨h.blk.adv hb,h.res.adv hb,h.own.adv hb,h.own1.adv hb,h.lt1,h.tape.grown (only_of_below hb none) (fun q e=>by cases e),only_trans h.grown (only_of_below hb _),h.ge.1,Nat.le_trans h.ge.2 hb.size⟩
theorem BdAt.alloc (h:BdAt w0 w b g R B f V l V1 l1) (o:Obj) : BdAt w0 (w.alloc o) b g R B f V l V1 l1:=h.adv (below_new w o)
theorem BdAt.set (h:BdAt w0 w b g R B f V l V1 l1) (hb:b < w0.heap.size) (hg:w0.heap.size≤g) (hgR:R ≠ g) (ho:Own encBd 2 92 w2 B V' l') (hG:w.grownBy w2 V.ownBlock) (i:Nat) (hf : (f V).setIfInBounds i V' = f V') :
  BdAt w0 (w2.setCell ⟨g,i,none⟩ V') b g R B f V' l' V1 l1:=by
 have hV:∀ q,V.ownBlock = some q→B≤q:=fun q e=>(h.own.block_lt e).1
 have hge:=h.ge
 have h1:Blk w2 g 48 (f V):=h.blk.grown hG (fun e=>h.own.notBlk h.blk (by decide) e.symm)
 have h2:Blk w2 R 48 _:=h.res.grown hG (fun e=>h.own.notBlk h.res (by decide) e.symm)
 have h3:TapeIn w2 b:=h.tape.grown hG (fun q e=>by have:=hV q e; omega)
 have h4:w0.grownBy w2 (some b):=only_then h.grown hG (fun q e=>.inl (by have:=hV q e; omega))
 have h5:Own encBd 2 92 w2 w0.heap.size V1 l1:=h.own1.keptNe hG (fun q hq e=>by have:=h.lt1 q hq; have:=hV q e; omega)
 have hs:=only_setCell (only_refl w2 (some g)) (p:=⟨g,i,none⟩) (.inl rfl) V'
 refine ⟨?_,h2.far (p:=⟨g,i,none⟩) hgR V',ho.keptNe hs (fun q hq e=>by injection e with e; exact ho.notBlk h1 (by decide) (by rw [hq,e])),h5.keptNe hs (fun q hq e=>by injection e with e; exact h5.notBlk h1 (by decide) (by rw [hq,e])),h.lt1,h3.grown hs (fun q e=>by injection e; omega),only_then h4 hs (fun q e=>by injection e with e; exact .inl (by omega)),hge.1,Nat.le_trans hge.2 (by simpa [World.setCell] using hG.size)⟩
 have:=h1.set_ i V'
 rw [hf] at this
 exact this
end
def BandsPostG (b:Nat) (w:World) (e:Ending) (w' : World) : Prop :=
 ∃ x:BandsM,e = .returned x.val∧NameOk x.n∧x.day.length≤16∧x.week.length≤16∧ascB (-1) x.day∧ascB (-1) x.week∧Own encBd 2 92 w' w.heap.size (.slice x.A x.day.length x.c) x.day∧Own encBd 2 92 w' w.heap.size (.slice x.B x.week.length x.d) x.week∧TapeIn w' b∧w.grownBy w' (some b)
section
set_option maxHeartbeats 8000000
set_option maxRecDepth 100000
theorem bandsG (b:Nat) (w:World) (hd:TapeIn w b) : Calls Tryz.prog 17 #[.pointer (some ⟨b,0,none⟩),.bool false] w (BandsPostG b w):=by
 have hlt:=hd.lt
 have hR0:=Blk.new w 48 #[.string ⟨#[]⟩,.slice none 0 0,.slice none 0 0]
 have hd0:=hd.alloc (.cells #[.string ⟨#[]⟩,.slice none 0 0,.slice none 0 0] 48)
 have hg0:=only_alloc (only_refl w (some b)) (.cells #[.string ⟨#[]⟩,.slice none 0 0,.slice none 0 0] 48)
 have hB0:=Blk.new (w.alloc (.cells #[.string ⟨#[]⟩,.slice none 0 0,.slice none 0 0] 48)) 48 #[.string ⟨#[110,111,114,109,97,108]⟩,.slice none 0 0,.slice none 0 0]
 rw [World.size_alloc] at hB0
 have HZ0:BdAt w ((w.alloc (.cells #[.string ⟨#[]⟩,.slice none 0 0,.slice none 0 0] 48)).alloc (.cells #[.string ⟨#[110,111,114,109,97,108]⟩,.slice none 0 0,.slice none 0 0] 48)) b (w.heap.size+1) w.heap.size w.heap.size (fun V=>#[.string ⟨#[110,111,114,109,97,108]⟩,V,.slice none 0 0]) (.slice none 0 0) [] (.slice none 0 0) [] :=
  ⟨hB0,hR0.alloc _,Own.nil_ _ _,Own.nil_ _ _,(fun q e=>by cases e),hd0.alloc _,only_alloc hg0 _,Nat.le_refl _,by simp; omega⟩
 have HZ0:=Lib.hid HZ0
 clear hR0 hd0 hg0 hB0 hd
 go_enter Tryz.func17,Tryz.ntmps17
 go_wp2_with fail
 generalize hg1:w.heap.size+1 = g at HZ0
 have hgw:w.heap.size≤g:=by omega
 have hgR:w.heap.size ≠ g:=by omega
 have hRw:w.heap.size≤w.heap.size:=Nat.le_refl _
 have hsz:((w.alloc (.cells #[.string ⟨#[]⟩,.slice none 0 0,.slice none 0 0] 48)).alloc (.cells #[.string ⟨#[110,111,114,109,97,108]⟩,.slice none 0 0,.slice none 0 0] 48)).heap.size = w.heap.size+1+1:=by simp
 generalize (w.alloc (.cells #[.string ⟨#[]⟩,.slice none 0 0,.slice none 0 0] 48)).alloc (.cells #[.string ⟨#[110,111,114,109,97,108]⟩,.slice none 0 0,.slice none 0 0] 48) = wz at HZ0 hsz ⊢
 rw [hg1] at hsz
 rw [← hsz]
 refine (pickN b wz [0,60,480,120] _ _ _ rfl rfl HZ0.out.tape (by simp) (by simp)).mono ?_
 rintro e w2 ⟨a0,rfl,hm2,hd2,hg2⟩
 have hq2:0≤a0∧a0≤480:=by simp at hm2; omega
 have HZ2:=Lib.hid (HZ0.out.next hlt hgw hRw hd2 hg2)
 clear hm2 hg2 hd2 HZ0 hsz
 go_wp2_with fail
 refine (nextT b _ _ (by omega) (by omega) HZ2.out.tape).mono ?_
 rintro e w3 ⟨n0,rfl,h0,h1,hd3,hg3⟩
 have HZ3:=Lib.hid (HZ2.out.next hlt hgw hRw hd3 hg3)
 obtain ⟨N,rfl⟩:=Int.eq_ofNat_of_zero_le h0
 clear hg3 hd3 HZ2 h0
 go_wp2
 go_loopw [6,7] (fun a i wr=>∃ (m:Nat) (AT:Int) (V:Value) (l:List BandT),a = .int .i64 AT∧i = .int .i64 m∧l.length+m≤2∧0≤AT∧AT+120 * m≤720∧Hid (BdOk l AT)∧Hid (BdAt w wr b g w.heap.size w.heap.size (fun V=>#[.string ⟨#[110,111,114,109,97,108]⟩,V,.slice none 0 0]) V l (.slice none 0 0) [])) (fun _ i _=>(intOf i).toNat)
 case atStart=>exact ⟨N,a0,_,[],rfl,rfl,by simp; omega,by omega,by omega,⟨trivial,fun x hx=>(by cases hx)⟩,HZ3⟩
 case round =>
  clear HZ3 h1 hq2
  obtain ⟨m,AT,V,l,rfl,rfl,hl,hA0,hA1,HOK,HZ⟩:=hrel
  have hB:=HZ.out.blk
  have hgl:=hB.lt
  by_cases hm0:0 < m
  ·
   go_upto_region 6 with fail
   refine M5.wp_region_sel (C:=fun w'=>Blk w' g 48 #[.string ⟨#[110,111,114,109,97,108]⟩,V,.slice none 0 0]) (stable_blkB _ _ _) hB (aE:=?aEd) [0,1,3,7] 9 12 (by kernel_rfl) (by kernel_rfl) rfl (by kernel_rfl) (by rfl) ?Hd ?Md
   case Hd =>
    intro F hF inst
    simp only [M3.opsAt,List.getElem?_toArray,List.getElem?_cons_zero,List.getElem?_cons_succ]
    have e0:∀ p:BwC (fun w'=>Blk w' g 48 #[.string ⟨#[110,111,114,109,97,108]⟩,V,.slice none 0 0]) F,p.w'.cell? ⟨g,1,none⟩ = some V:=fun p=>(Blk.cell p.h 1).trans rfl
    repeat (first | go_big_quiet_step (fail))
    refine wpQuiet_nil ?_
    rfl
   case Md =>
    intro Q0 hQ0
    refine M5.mix_many [2,4] (by kernel_rfl) (by decide) (by decide) ?_
    intro w4 hC4 hb4 i hi
    have hZ4:=HZ.out.adv hb4
    simp only [nqj,nqk,or_false] at hi
    rcases hi with rfl | rfl
    ·
     refine M3.mix_val (.slice (some ⟨w4.heap.size,0,none⟩) 3 3) (w4.alloc (.cells #[.string ⟨#[111,116,49]⟩,.string ⟨#[111,116,50]⟩,.string ⟨#[110,111,114,109,97,108]⟩] 9)) rfl rfl (by go_simp) ⟨hC4.alloc _,?_⟩
     simp only [Act.put,nqa,nqb,nqc,nqd,nqe,nqf]
     refine M5.mix_one 4 (by kernel_rfl) (by decide) ?_
     intro w5 hC5' hb5
     have hL5:=(SliceOf.new (enc:=encNm) (k:=1) (fun _=>rfl) w4 [(⟨#[111,116,49]⟩ : ByteArray),(⟨#[111,116,50]⟩ : ByteArray),(⟨#[110,111,114,109,97,108]⟩ : ByteArray)] #[.string ⟨#[111,116,49]⟩,.string ⟨#[111,116,50]⟩,.string ⟨#[110,111,114,109,97,108]⟩] 9 rfl).below (by simpa using hb5)
     have hZ5':=(hZ4.alloc (.cells #[.string ⟨#[111,116,49]⟩,.string ⟨#[111,116,50]⟩,.string ⟨#[110,111,114,109,97,108]⟩] 9)).adv hb5
     have hw5:w4.heap.size < w5.heap.size:=by have:=hb5.size; rw [World.size_alloc] at this; omega
     have hw4:=hb4.size
     refine M3.mix_call 7 #[.pointer (some ⟨b,0,none⟩),.int .i64 3] rfl rfl (by go_simp) ?_
     refine (nextT b 3 w5 (by omega) (by omega) hZ5'.tape).mono ?_
     rintro e w5b ⟨r,rfl,h0,h1,hd5,hg5⟩
     have hZ5:=hZ5'.next hlt hgw hRw hd5 hg5
     have hC5:=hZ5.blk
     refine ⟨_,rfl,hC5,?_⟩
     simp only [Act.put,nqa,nqb,nqc,nqd,nqe,nqf]
     obtain ⟨j,rfl⟩:=Int.eq_ofNat_of_zero_le h0
     have hj3:j < 3:=by omega
     obtain ⟨b',off',hA',_,hc'⟩:=hL5.at_ (show j < _ by simp; omega)
     injection hA' with hA'
     injection hA' with hA1 hA2
     subst hA1 hA2
     have hx5:=(World.cell?_of_block (a:=⟨w4.heap.size,0+j * 1+0,none⟩) (hg5.block w4.heap.size hw5 (fun e=>by injection e; omega))).trans (hc' 0 _ rfl)
     simp only [Nat.zero_add,Nat.add_zero,Nat.mul_one] at hx5
     have hsb:w4.heap.size < w5b.heap.size:=Nat.lt_of_lt_of_le hw5 hg5.size
     generalize w4.heap.size = sb at *
     clear hc' hL5 hZ5' hC5' hb5 hZ4 hC4 hb4 hg5 hd5 hw5 hw4 h0 h1
     have hnm : NameOk ([(⟨#[111, 116, 49]⟩ : ByteArray), (⟨#[111, 116, 50]⟩ : ByteArray), (⟨#[110, 111, 114, 109, 97, 108]⟩ : ByteArray)][j]'(by simp; omega)) := by
      refine (?_:∀ x ∈ [(⟨#[111,116,49]⟩ : ByteArray),(⟨#[111,116,50]⟩ : ByteArray),(⟨#[110,111,114,109,97,108]⟩ : ByteArray)],NameOk x) _ (List.getElem_mem _)
      intro x hx
      simp only [nqj,nqk,or_false] at hx
      rcases hx with rfl | rfl | rfl
      all_goals first | exact .inl rfl | exact .inr (.inl rfl) | exact .inr (.inr (.inl rfl)) | exact .inr (.inr (.inr (.inl rfl))) | exact .inr (.inr (.inr (.inr rfl)))
     generalize hnn : [(⟨#[111, 116, 49]⟩ : ByteArray), (⟨#[111, 116, 50]⟩ : ByteArray), (⟨#[110, 111, 114, 109, 97, 108]⟩ : ByteArray)][j]'(by simp; omega) = nm at hx5 hnm
     clear hnn
     refine M5.mix_take 5 (.pointer (some ⟨sb,j,none⟩)) (by kernel_rfl) rfl (by kernel_rfl) rfl (fun _=>by go_simp <;> (intro hh; omega)) ?_
     simp only [Act.put,nqa,nqb,nqc,nqd,nqe,nqf]
     refine M5.mix_one 6 (by kernel_rfl) (by decide) ?_
     intro w6 hC6 hb6
     have hZ6:=hZ5.adv hb6
     have hx6:=(hb6.cell (p:=⟨sb,j,none⟩) hsb).trans hx5
     refine M3.mix_val (.string nm) w6 rfl rfl (by go_simp) ⟨hC6,?_⟩
     simp only [Act.put,nqa,nqb,nqc,nqd,nqe,nqf]
     clear hx6 hx5 hb6 hC6 hZ5 hC5
     refine M5.mix_take 8 (.agg #[.string nm,.int .i64 AT]) (by kernel_rfl) rfl (by kernel_rfl) rfl (fun _=>by go_simp) ?_
     simp only [Act.put,nqa,nqb,nqc,nqd,nqe,nqf]
     refine M5.mix_one 9 (by kernel_rfl) (by decide) ?_
     intro w7 hC7 hb7
     have hZ7:=hZ6.adv hb7
     refine M3.mix_val (.slice (some ⟨w7.heap.size,0,none⟩) 1 1) (w7.alloc (.cells #[.string nm,.int .i64 AT] 92)) rfl rfl (by go_simp) ⟨hC7.alloc _,?_⟩
     simp only [Act.put,nqa,nqb,nqc,nqd,nqe,nqf]
     refine M5.mix_one 10 (by kernel_rfl) (by decide) ?_
     intro w8 hC8 hb8
     have hY8:=((SliceOf.new encBd_len w7 [(⟨nm,AT⟩ : BandT)] #[.string nm,.int .i64 AT] 92 rfl).below (by simpa using hb8)).more (B':=w8.heap.size) (by simpa using hb8.size)
     have hZ8:=(hZ7.alloc (.cells #[.string nm,.int .i64 AT] 92)).adv hb8
     refine M3.mix_append _ _ 46 1 24 _ infoBd Tryz.underlying46 hZ8.own hY8 encBd_len (by omega) rfl encBd_one (by simp; omega) (by omega) hZ8.ge.2 rfl rfl rfl rfl rfl rfl ?_
     intro v9 w9 hown9 hg9
     obtain ⟨A9,c9,hv9⟩:=hown9.slice encBd_len
     subst hv9
     refine ⟨hZ8.blk.grown hg9 (fun e=>hZ8.own.notBlk hZ8.blk (by decide) e.symm),?_⟩
     simp only [Act.put,nqa,nqb,nqc,nqd,nqe,nqf]
     refine M5.mix_take 11 (.pointer (some ⟨g,1,none⟩)) (by kernel_rfl) rfl (by kernel_rfl) rfl (fun _=>by go_simp) ?_
     simp only [Act.put,nqa,nqb,nqc,nqd,nqe,nqf]
     refine M5.mix_last (by kernel_rfl) (by kernel_rfl) ?_
     intro w10 hC10 hb10
     have z:=hC10.cell 1
     have fz:=hC10.frozen 1
     have lg:=hC10.lt
     simp only [nqg,nqh,nqi] at z
     have HZ11:=Lib.hid (hZ8.set hlt hgw hgR (hown9.adv hb10) (only_adv hg9 hb10) 1 rfl)
     refine M3.mix_skip (w10.setCell ⟨g,1,none⟩ (.slice A9 (l++[(⟨nm,AT⟩ : BandT)]).length c9)) rfl rfl (by go_simp) ?_
     simp only [Act.put,nqa,nqb,nqc]
     refine hQ0 _ _ ?_
     generalize w10.setCell ⟨g,1,none⟩ (.slice A9 (l++[(⟨nm,AT⟩ : BandT)]).length c9) = w11 at HZ11 ⊢
     clear z fz lg hC10 hb10 hg9 hown9 hZ8 hY8 hC8 hb8 hZ7 hC7 hb7 hZ6 hB hgl hQ0
     go_wp2_with fail
     refine (pickN b w11 [60,1,120] _ _ _ rfl rfl HZ11.out.tape (by simp) (by simp)).mono ?_
     rintro e w12 ⟨q,rfl,hmq,hd12,hg12⟩
     have hqq:1≤q∧q≤120:=by simp at hmq; omega
     have HZ12:=Lib.hid (HZ11.out.next hlt hgw hRw hd12 hg12)
     have HOK2:=Lib.hid (HOK.out.snoc hA0 (by omega) (show AT < AT+q by omega) hnm)
     clear hmq hd12 hg12
     go_wp2
     go_roundw
     case rel=>exact ⟨m - 1,AT+q,_,_,rfl,by congr 1; omega,by simp; omega,by omega,by omega,HOK2.out,HZ12.out⟩
     case measure=>simp [intOf]; omega
    ·
     refine M3.mix_call 7 #[.pointer (some ⟨b,0,none⟩),.int .i64 3] rfl rfl (by go_simp) ?_
     refine (nextT b 3 w4 (by omega) (by omega) hZ4.tape).mono ?_
     rintro e w5 ⟨r,rfl,h0,h1,hd5,hg5⟩
     have hZ5':=hZ4.next hlt hgw hRw hd5 hg5
     refine ⟨_,rfl,hZ5'.blk,?_⟩
     simp only [Act.put,nqa,nqb,nqc,nqd,nqe,nqf]
     refine M5.mix_one 2 (by kernel_rfl) (by decide) ?_
     intro w5c hC5' hb5
     have hZ5c:=hZ5'.adv hb5
     refine M3.mix_val (.slice (some ⟨w5c.heap.size,0,none⟩) 3 3) (w5c.alloc (.cells #[.string ⟨#[111,116,49]⟩,.string ⟨#[111,116,50]⟩,.string ⟨#[110,111,114,109,97,108]⟩] 9)) rfl rfl (by go_simp) ⟨hC5'.alloc _,?_⟩
     simp only [Act.put,nqa,nqb,nqc,nqd,nqe,nqf]
     have hL5:=SliceOf.new (enc:=encNm) (k:=1) (fun _=>rfl) w5c [(⟨#[111,116,49]⟩ : ByteArray),(⟨#[111,116,50]⟩ : ByteArray),(⟨#[110,111,114,109,97,108]⟩ : ByteArray)] #[.string ⟨#[111,116,49]⟩,.string ⟨#[111,116,50]⟩,.string ⟨#[110,111,114,109,97,108]⟩] 9 rfl
     have hZ5:=hZ5c.alloc (.cells #[.string ⟨#[111,116,49]⟩,.string ⟨#[111,116,50]⟩,.string ⟨#[110,111,114,109,97,108]⟩] 9)
     have hC5:=hZ5.blk
     obtain ⟨j,rfl⟩:=Int.eq_ofNat_of_zero_le h0
     have hj3:j < 3:=by omega
     obtain ⟨b',off',hA',_,hc'⟩:=hL5.at_ (show j < _ by simp; omega)
     injection hA' with hA'
     injection hA' with hA1 hA2
     subst hA1 hA2
     have hx5:=hc' 0 _ rfl
     simp only [Nat.zero_add,Nat.add_zero,Nat.mul_one] at hx5
     have hsb:w5c.heap.size < (w5c.alloc (.cells #[.string ⟨#[111,116,49]⟩,.string ⟨#[111,116,50]⟩,.string ⟨#[110,111,114,109,97,108]⟩] 9)).heap.size:=by rw [World.size_alloc]; omega
     generalize w5c.alloc (.cells #[.string ⟨#[111,116,49]⟩,.string ⟨#[111,116,50]⟩,.string ⟨#[110,111,114,109,97,108]⟩] 9) = w5b at *
     generalize w5c.heap.size = sb at *
     clear hc' hL5 hZ5c hZ5' hC5' hb5 hZ4 hC4 hb4 hg5 hd5 h0 h1
     have hnm : NameOk ([(⟨#[111, 116, 49]⟩ : ByteArray), (⟨#[111, 116, 50]⟩ : ByteArray), (⟨#[110, 111, 114, 109, 97, 108]⟩ : ByteArray)][j]'(by simp; omega)) := by
      refine (?_:∀ x ∈ [(⟨#[111,116,49]⟩ : ByteArray),(⟨#[111,116,50]⟩ : ByteArray),(⟨#[110,111,114,109,97,108]⟩ : ByteArray)],NameOk x) _ (List.getElem_mem _)
      intro x hx
      simp only [nqj,nqk,or_false] at hx
      rcases hx with rfl | rfl | rfl
      all_goals first | exact .inl rfl | exact .inr (.inl rfl) | exact .inr (.inr (.inl rfl)) | exact .inr (.inr (.inr (.inl rfl))) | exact .inr (.inr (.inr (.inr rfl)))
     generalize hnn : [(⟨#[111, 116, 49]⟩ : ByteArray), (⟨#[111, 116, 50]⟩ : ByteArray), (⟨#[110, 111, 114, 109, 97, 108]⟩ : ByteArray)][j]'(by simp; omega) = nm at hx5 hnm
     clear hnn
     refine M5.mix_take 5 (.pointer (some ⟨sb,j,none⟩)) (by kernel_rfl) rfl (by kernel_rfl) rfl (fun _=>by go_simp <;> (intro hh; omega)) ?_
     simp only [Act.put,nqa,nqb,nqc,nqd,nqe,nqf]
     refine M5.mix_one 6 (by kernel_rfl) (by decide) ?_
     intro w6 hC6 hb6
     have hZ6:=hZ5.adv hb6
     have hx6:=(hb6.cell (p:=⟨sb,j,none⟩) hsb).trans hx5
     refine M3.mix_val (.string nm) w6 rfl rfl (by go_simp) ⟨hC6,?_⟩
     simp only [Act.put,nqa,nqb,nqc,nqd,nqe,nqf]
     clear hx6 hx5 hb6 hC6 hZ5 hC5
     refine M5.mix_take 8 (.agg #[.string nm,.int .i64 AT]) (by kernel_rfl) rfl (by kernel_rfl) rfl (fun _=>by go_simp) ?_
     simp only [Act.put,nqa,nqb,nqc,nqd,nqe,nqf]
     refine M5.mix_one 9 (by kernel_rfl) (by decide) ?_
     intro w7 hC7 hb7
     have hZ7:=hZ6.adv hb7
     refine M3.mix_val (.slice (some ⟨w7.heap.size,0,none⟩) 1 1) (w7.alloc (.cells #[.string nm,.int .i64 AT] 92)) rfl rfl (by go_simp) ⟨hC7.alloc _,?_⟩
     simp only [Act.put,nqa,nqb,nqc,nqd,nqe,nqf]
     refine M5.mix_one 10 (by kernel_rfl) (by decide) ?_
     intro w8 hC8 hb8
     have hY8:=((SliceOf.new encBd_len w7 [(⟨nm,AT⟩ : BandT)] #[.string nm,.int .i64 AT] 92 rfl).below (by simpa using hb8)).more (B':=w8.heap.size) (by simpa using hb8.size)
     have hZ8:=(hZ7.alloc (.cells #[.string nm,.int .i64 AT] 92)).adv hb8
     refine M3.mix_append _ _ 46 1 24 _ infoBd Tryz.underlying46 hZ8.own hY8 encBd_len (by omega) rfl encBd_one (by simp; omega) (by omega) hZ8.ge.2 rfl rfl rfl rfl rfl rfl ?_
     intro v9 w9 hown9 hg9
     obtain ⟨A9,c9,hv9⟩:=hown9.slice encBd_len
     subst hv9
     refine ⟨hZ8.blk.grown hg9 (fun e=>hZ8.own.notBlk hZ8.blk (by decide) e.symm),?_⟩
     simp only [Act.put,nqa,nqb,nqc,nqd,nqe,nqf]
     refine M5.mix_take 11 (.pointer (some ⟨g,1,none⟩)) (by kernel_rfl) rfl (by kernel_rfl) rfl (fun _=>by go_simp) ?_
     simp only [Act.put,nqa,nqb,nqc,nqd,nqe,nqf]
     refine M5.mix_last (by kernel_rfl) (by kernel_rfl) ?_
     intro w10 hC10 hb10
     have z:=hC10.cell 1
     have fz:=hC10.frozen 1
     have lg:=hC10.lt
     simp only [nqg,nqh,nqi] at z
     have HZ11:=Lib.hid (hZ8.set hlt hgw hgR (hown9.adv hb10) (only_adv hg9 hb10) 1 rfl)
     refine M3.mix_skip (w10.setCell ⟨g,1,none⟩ (.slice A9 (l++[(⟨nm,AT⟩ : BandT)]).length c9)) rfl rfl (by go_simp) ?_
     simp only [Act.put,nqa,nqb,nqc]
     refine hQ0 _ _ ?_
     generalize w10.setCell ⟨g,1,none⟩ (.slice A9 (l++[(⟨nm,AT⟩ : BandT)]).length c9) = w11 at HZ11 ⊢
     clear z fz lg hC10 hb10 hg9 hown9 hZ8 hY8 hC8 hb8 hZ7 hC7 hb7 hZ6 hB hgl hQ0
     go_wp2_with fail
     refine (pickN b w11 [60,1,120] _ _ _ rfl rfl HZ11.out.tape (by simp) (by simp)).mono ?_
     rintro e w12 ⟨q,rfl,hmq,hd12,hg12⟩
     have hqq:1≤q∧q≤120:=by simp at hmq; omega
     have HZ12:=Lib.hid (HZ11.out.next hlt hgw hRw hd12 hg12)
     have HOK2:=Lib.hid (HOK.out.snoc hA0 (by omega) (show AT < AT+q by omega) hnm)
     clear hmq hd12 hg12
     go_wp2
     go_roundw
     case rel=>exact ⟨m - 1,AT+q,_,_,rfl,by congr 1; omega,by simp; omega,by omega,by omega,HOK2.out,HZ12.out⟩
     case measure=>simp [intOf]; omega
  ·
   obtain ⟨A1,c1,hv1⟩:=HZ.out.own.slice encBd_len
   subst hv1
   have hl16:l.length≤16:=by omega
   have HL1:=Lib.hid HOK.out.a
   clear hB
   go_wp2_with fail
   refine (pickN b wr [100,480,0,2400] _ _ _ rfl rfl HZ.out.tape (by simp) (by simp)).mono ?_
   rintro e w4 ⟨a1,rfl,hm4,hd4,hg4⟩
   have hq4:0≤a1∧a1≤2400:=by simp at hm4; omega
   have HZ4:=Lib.hid (HZ.out.next hlt hgw hRw hd4 hg4)
   clear hm4 hg4 hd4 HZ HOK
   go_wp2_with fail
   refine (nextT b _ _ (by omega) (by omega) HZ4.out.tape).mono ?_
   rintro e w5 ⟨n1,rfl,h0,h1,hd5,hg5⟩
   have hZ5:=HZ4.out.next hlt hgw hRw hd5 hg5
   obtain ⟨N1,rfl⟩:=Int.eq_ofNat_of_zero_le h0
   have HZW:Hid (BdAt w w5 b g w.heap.size w5.heap.size (fun V=>#[.string ⟨#[110,111,114,109,97,108]⟩,.slice A1 l.length c1,V]) (.slice none 0 0) [] (.slice A1 l.length c1) l) :=
    ⟨hZ5.blk,hZ5.res,Own.nil_ _ _,hZ5.own,fun q e=>(hZ5.own.block_lt e).2,hZ5.tape,hZ5.grown,hZ5.grown.size,Nat.le_refl _⟩
   clear hg5 hd5 HZ4 h0 hZ5 hl hA0 hA1 hm0
   go_wp2
   obtain ⟨dl,rfl⟩ : ∃ dl,dl = l:=⟨_,rfl⟩
   go_loopw [6,8] (fun a i wr=>∃ (m:Nat) (AT:Int) (V:Value) (l:List BandT),a = .int .i64 AT∧i = .int .i64 m∧l.length+m≤2∧0≤AT∧AT+600 * m≤3600∧Hid (BdOk l AT)∧Hid (BdAt w wr b g w.heap.size w5.heap.size (fun V=>#[.string ⟨#[110,111,114,109,97,108]⟩,.slice A1 dl.length c1,V]) V l (.slice A1 dl.length c1) dl)) (fun _ i _=>(intOf i).toNat)
   case atStart=>exact ⟨N1,a1,_,[],rfl,rfl,by simp; omega,by omega,by omega,⟨trivial,fun x hx=>(by cases hx)⟩,HZW⟩
   case round =>
    clear HZW h1 hq4
    obtain ⟨m,AT,V,l,rfl,rfl,hl,hA0,hA1,HOK,HZ⟩:=hrel
    have hB:=HZ.out.blk
    have hgl:=hB.lt
    by_cases hm0:0 < m
    ·
     go_upto_region 12 with fail
     refine M5.wp_region_sel (C:=fun w'=>Blk w' g 48 #[.string ⟨#[110,111,114,109,97,108]⟩,.slice A1 dl.length c1,V]) (stable_blkB _ _ _) hB (aE:=?aEw) [0,1,3,7] 9 12 (by kernel_rfl) (by kernel_rfl) rfl (by kernel_rfl) (by rfl) ?Hw ?Mw
     case Hw =>
      intro F hF inst
      simp only [M3.opsAt,List.getElem?_toArray,List.getElem?_cons_zero,List.getElem?_cons_succ]
      have e0:∀ p:BwC (fun w'=>Blk w' g 48 #[.string ⟨#[110,111,114,109,97,108]⟩,.slice A1 dl.length c1,V]) F,p.w'.cell? ⟨g,2,none⟩ = some V:=fun p=>(Blk.cell p.h 2).trans rfl
      repeat (first | go_big_quiet_step (fail))
      refine wpQuiet_nil ?_
      rfl
     case Mw =>
      intro Q0 hQ0
      refine M5.mix_many [2,4] (by kernel_rfl) (by decide) (by decide) ?_
      intro w4 hC4 hb4 i hi
      have hZ4:=HZ.out.adv hb4
      simp only [nqj,nqk,or_false] at hi
      rcases hi with rfl | rfl
      ·
       refine M3.mix_val (.slice (some ⟨w4.heap.size,0,none⟩) 3 3) (w4.alloc (.cells #[.string ⟨#[119,49]⟩,.string ⟨#[119,50]⟩,.string ⟨#[111,116,49]⟩] 9)) rfl rfl (by go_simp) ⟨hC4.alloc _,?_⟩
       simp only [Act.put,nqa,nqb,nqc,nqd,nqe,nqf]
       refine M5.mix_one 4 (by kernel_rfl) (by decide) ?_
       intro w5 hC5' hb5
       have hL5:=(SliceOf.new (enc:=encNm) (k:=1) (fun _=>rfl) w4 [(⟨#[119,49]⟩ : ByteArray),(⟨#[119,50]⟩ : ByteArray),(⟨#[111,116,49]⟩ : ByteArray)] #[.string ⟨#[119,49]⟩,.string ⟨#[119,50]⟩,.string ⟨#[111,116,49]⟩] 9 rfl).below (by simpa using hb5)
       have hZ5':=(hZ4.alloc (.cells #[.string ⟨#[119,49]⟩,.string ⟨#[119,50]⟩,.string ⟨#[111,116,49]⟩] 9)).adv hb5
       have hw5:w4.heap.size < w5.heap.size:=by have:=hb5.size; rw [World.size_alloc] at this; omega
       have hw4:=hb4.size
       refine M3.mix_call 7 #[.pointer (some ⟨b,0,none⟩),.int .i64 3] rfl rfl (by go_simp) ?_
       refine (nextT b 3 w5 (by omega) (by omega) hZ5'.tape).mono ?_
       rintro e w5b ⟨r,rfl,h0,h1,hd5,hg5⟩
       have hZ5:=hZ5'.next hlt hgw hRw hd5 hg5
       have hC5:=hZ5.blk
       refine ⟨_,rfl,hC5,?_⟩
       simp only [Act.put,nqa,nqb,nqc,nqd,nqe,nqf]
       obtain ⟨j,rfl⟩:=Int.eq_ofNat_of_zero_le h0
       have hj3:j < 3:=by omega
       obtain ⟨b',off',hA',_,hc'⟩:=hL5.at_ (show j < _ by simp; omega)
       injection hA' with hA'
       injection hA' with hA1 hA2
       subst hA1 hA2
       have hx5:=(World.cell?_of_block (a:=⟨w4.heap.size,0+j * 1+0,none⟩) (hg5.block w4.heap.size hw5 (fun e=>by injection e; omega))).trans (hc' 0 _ rfl)
       simp only [Nat.zero_add,Nat.add_zero,Nat.mul_one] at hx5
       have hsb:w4.heap.size < w5b.heap.size:=Nat.lt_of_lt_of_le hw5 hg5.size
       generalize w4.heap.size = sb at *
       clear hc' hL5 hZ5' hC5' hb5 hZ4 hC4 hb4 hg5 hd5 hw5 hw4 h0 h1
       have hnm : NameOk ([(⟨#[119, 49]⟩ : ByteArray), (⟨#[119, 50]⟩ : ByteArray), (⟨#[111, 116, 49]⟩ : ByteArray)][j]'(by simp; omega)) := by
        refine (?_:∀ x ∈ [(⟨#[119,49]⟩ : ByteArray),(⟨#[119,50]⟩ : ByteArray),(⟨#[111,116,49]⟩ : ByteArray)],NameOk x) _ (List.getElem_mem _)
        intro x hx
        simp only [nqj,nqk,or_false] at hx
        rcases hx with rfl | rfl | rfl
        all_goals first | exact .inl rfl | exact .inr (.inl rfl) | exact .inr (.inr (.inl rfl)) | exact .inr (.inr (.inr (.inl rfl))) | exact .inr (.inr (.inr (.inr rfl)))
       generalize hnn : [(⟨#[119, 49]⟩ : ByteArray), (⟨#[119, 50]⟩ : ByteArray), (⟨#[111, 116, 49]⟩ : ByteArray)][j]'(by simp; omega) = nm at hx5 hnm
       clear hnn
       refine M5.mix_take 5 (.pointer (some ⟨sb,j,none⟩)) (by kernel_rfl) rfl (by kernel_rfl) rfl (fun _=>by go_simp <;> (intro hh; omega)) ?_
       simp only [Act.put,nqa,nqb,nqc,nqd,nqe,nqf]
       refine M5.mix_one 6 (by kernel_rfl) (by decide) ?_
       intro w6 hC6 hb6
       have hZ6:=hZ5.adv hb6
       have hx6:=(hb6.cell (p:=⟨sb,j,none⟩) hsb).trans hx5
       refine M3.mix_val (.string nm) w6 rfl rfl (by go_simp) ⟨hC6,?_⟩
       simp only [Act.put,nqa,nqb,nqc,nqd,nqe,nqf]
       clear hx6 hx5 hb6 hC6 hZ5 hC5
       refine M5.mix_take 8 (.agg #[.string nm,.int .i64 AT]) (by kernel_rfl) rfl (by kernel_rfl) rfl (fun _=>by go_simp) ?_
       simp only [Act.put,nqa,nqb,nqc,nqd,nqe,nqf]
       refine M5.mix_one 9 (by kernel_rfl) (by decide) ?_
       intro w7 hC7 hb7
       have hZ7:=hZ6.adv hb7
       refine M3.mix_val (.slice (some ⟨w7.heap.size,0,none⟩) 1 1) (w7.alloc (.cells #[.string nm,.int .i64 AT] 92)) rfl rfl (by go_simp) ⟨hC7.alloc _,?_⟩
       simp only [Act.put,nqa,nqb,nqc,nqd,nqe,nqf]
       refine M5.mix_one 10 (by kernel_rfl) (by decide) ?_
       intro w8 hC8 hb8
       have hY8:=((SliceOf.new encBd_len w7 [(⟨nm,AT⟩ : BandT)] #[.string nm,.int .i64 AT] 92 rfl).below (by simpa using hb8)).more (B':=w8.heap.size) (by simpa using hb8.size)
       have hZ8:=(hZ7.alloc (.cells #[.string nm,.int .i64 AT] 92)).adv hb8
       refine M3.mix_append _ _ 46 1 24 _ infoBd Tryz.underlying46 hZ8.own hY8 encBd_len (by omega) rfl encBd_one (by simp; omega) (by omega) hZ8.ge.2 rfl rfl rfl rfl rfl rfl ?_
       intro v9 w9 hown9 hg9
       obtain ⟨A9,c9,hv9⟩:=hown9.slice encBd_len
       subst hv9
       refine ⟨hZ8.blk.grown hg9 (fun e=>hZ8.own.notBlk hZ8.blk (by decide) e.symm),?_⟩
       simp only [Act.put,nqa,nqb,nqc,nqd,nqe,nqf]
       refine M5.mix_take 11 (.pointer (some ⟨g,2,none⟩)) (by kernel_rfl) rfl (by kernel_rfl) rfl (fun _=>by go_simp) ?_
       simp only [Act.put,nqa,nqb,nqc,nqd,nqe,nqf]
       refine M5.mix_last (by kernel_rfl) (by kernel_rfl) ?_
       intro w10 hC10 hb10
       have z:=hC10.cell 2
       have fz:=hC10.frozen 2
       have lg:=hC10.lt
       simp only [nqg,nqh,nqi] at z
       have HZ11:=Lib.hid (hZ8.set hlt hgw hgR (hown9.adv hb10) (only_adv hg9 hb10) 2 rfl)
       refine M3.mix_skip (w10.setCell ⟨g,2,none⟩ (.slice A9 (l++[(⟨nm,AT⟩ : BandT)]).length c9)) rfl rfl (by go_simp) ?_
       simp only [Act.put,nqa,nqb,nqc]
       refine hQ0 _ _ ?_
       generalize w10.setCell ⟨g,2,none⟩ (.slice A9 (l++[(⟨nm,AT⟩ : BandT)]).length c9) = w11 at HZ11 ⊢
       clear z fz lg hC10 hb10 hg9 hown9 hZ8 hY8 hC8 hb8 hZ7 hC7 hb7 hZ6 hB hgl hQ0
       go_wp2_with fail
       refine (pickN b w11 [60,1,600] _ _ _ rfl rfl HZ11.out.tape (by simp) (by simp)).mono ?_
       rintro e w12 ⟨q,rfl,hmq,hd12,hg12⟩
       have hqq:1≤q∧q≤600:=by simp at hmq; omega
       have HZ12:=Lib.hid (HZ11.out.next hlt hgw hRw hd12 hg12)
       have HOK2:=Lib.hid (HOK.out.snoc hA0 (by omega) (show AT < AT+q by omega) hnm)
       clear hmq hd12 hg12
       go_wp2
       go_roundw
       case rel=>exact ⟨m - 1,AT+q,_,_,rfl,by congr 1; omega,by simp; omega,by omega,by omega,HOK2.out,HZ12.out⟩
       case measure=>simp [intOf]; omega
      ·
       refine M3.mix_call 7 #[.pointer (some ⟨b,0,none⟩),.int .i64 3] rfl rfl (by go_simp) ?_
       refine (nextT b 3 w4 (by omega) (by omega) hZ4.tape).mono ?_
       rintro e w5 ⟨r,rfl,h0,h1,hd5,hg5⟩
       have hZ5':=hZ4.next hlt hgw hRw hd5 hg5
       refine ⟨_,rfl,hZ5'.blk,?_⟩
       simp only [Act.put,nqa,nqb,nqc,nqd,nqe,nqf]
       refine M5.mix_one 2 (by kernel_rfl) (by decide) ?_
       intro w5c hC5' hb5
       have hZ5c:=hZ5'.adv hb5
       refine M3.mix_val (.slice (some ⟨w5c.heap.size,0,none⟩) 3 3) (w5c.alloc (.cells #[.string ⟨#[119,49]⟩,.string ⟨#[119,50]⟩,.string ⟨#[111,116,49]⟩] 9)) rfl rfl (by go_simp) ⟨hC5'.alloc _,?_⟩
       simp only [Act.put,nqa,nqb,nqc,nqd,nqe,nqf]
       have hL5:=SliceOf.new (enc:=encNm) (k:=1) (fun _=>rfl) w5c [(⟨#[119,49]⟩ : ByteArray),(⟨#[119,50]⟩ : ByteArray),(⟨#[111,116,49]⟩ : ByteArray)] #[.string ⟨#[119,49]⟩,.string ⟨#[119,50]⟩,.string ⟨#[111,116,49]⟩] 9 rfl
       have hZ5:=hZ5c.alloc (.cells #[.string ⟨#[119,49]⟩,.string ⟨#[119,50]⟩,.string ⟨#[111,116,49]⟩] 9)
       have hC5:=hZ5.blk
       obtain ⟨j,rfl⟩:=Int.eq_ofNat_of_zero_le h0
       have hj3:j < 3:=by omega
       obtain ⟨b',off',hA',_,hc'⟩:=hL5.at_ (show j < _ by simp; omega)
       injection hA' with hA'
       injection hA' with hA1 hA2
       subst hA1 hA2
       have hx5:=hc' 0 _ rfl
       simp only [Nat.zero_add,Nat.add_zero,Nat.mul_one] at hx5
       have hsb:w5c.heap.size < (w5c.alloc (.cells #[.string ⟨#[119,49]⟩,.string ⟨#[119,50]⟩,.string ⟨#[111,116,49]⟩] 9)).heap.size:=by rw [World.size_alloc]; omega
       generalize w5c.alloc (.cells #[.string ⟨#[119,49]⟩,.string ⟨#[119,50]⟩,.string ⟨#[111,116,49]⟩] 9) = w5b at *
       generalize w5c.heap.size = sb at *
       clear hc' hL5 hZ5c hZ5' hC5' hb5 hZ4 hC4 hb4 hg5 hd5 h0 h1
       have hnm : NameOk ([(⟨#[119, 49]⟩ : ByteArray), (⟨#[119, 50]⟩ : ByteArray), (⟨#[111, 116, 49]⟩ : ByteArray)][j]'(by simp; omega)) := by
        refine (?_:∀ x ∈ [(⟨#[119,49]⟩ : ByteArray),(⟨#[119,50]⟩ : ByteArray),(⟨#[111,116,49]⟩ : ByteArray)],NameOk x) _ (List.getElem_mem _)
        intro x hx
        simp only [nqj,nqk,or_false] at hx
        rcases hx with rfl | rfl | rfl
        all_goals first | exact .inl rfl | exact .inr (.inl rfl) | exact .inr (.inr (.inl rfl)) | exact .inr (.inr (.inr (.inl rfl))) | exact .inr (.inr (.inr (.inr rfl)))
       generalize hnn : [(⟨#[119, 49]⟩ : ByteArray), (⟨#[119, 50]⟩ : ByteArray), (⟨#[111, 116, 49]⟩ : ByteArray)][j]'(by simp; omega) = nm at hx5 hnm
       clear hnn
       refine M5.mix_take 5 (.pointer (some ⟨sb,j,none⟩)) (by kernel_rfl) rfl (by kernel_rfl) rfl (fun _=>by go_simp <;> (intro hh; omega)) ?_
       simp only [Act.put,nqa,nqb,nqc,nqd,nqe,nqf]
       refine M5.mix_one 6 (by kernel_rfl) (by decide) ?_
       intro w6 hC6 hb6
       have hZ6:=hZ5.adv hb6
       have hx6:=(hb6.cell (p:=⟨sb,j,none⟩) hsb).trans hx5
       refine M3.mix_val (.string nm) w6 rfl rfl (by go_simp) ⟨hC6,?_⟩
       simp only [Act.put,nqa,nqb,nqc,nqd,nqe,nqf]
       clear hx6 hx5 hb6 hC6 hZ5 hC5
       refine M5.mix_take 8 (.agg #[.string nm,.int .i64 AT]) (by kernel_rfl) rfl (by kernel_rfl) rfl (fun _=>by go_simp) ?_
       simp only [Act.put,nqa,nqb,nqc,nqd,nqe,nqf]
       refine M5.mix_one 9 (by kernel_rfl) (by decide) ?_
       intro w7 hC7 hb7
       have hZ7:=hZ6.adv hb7
       refine M3.mix_val (.slice (some ⟨w7.heap.size,0,none⟩) 1 1) (w7.alloc (.cells #[.string nm,.int .i64 AT] 92)) rfl rfl (by go_simp) ⟨hC7.alloc _,?_⟩
       simp only [Act.put,nqa,nqb,nqc,nqd,nqe,nqf]
       refine M5.mix_one 10 (by kernel_rfl) (by decide) ?_
       intro w8 hC8 hb8
       have hY8:=((SliceOf.new encBd_len w7 [(⟨nm,AT⟩ : BandT)] #[.string nm,.int .i64 AT] 92 rfl).below (by simpa using hb8)).more (B':=w8.heap.size) (by simpa using hb8.size)
       have hZ8:=(hZ7.alloc (.cells #[.string nm,.int .i64 AT] 92)).adv hb8
       refine M3.mix_append _ _ 46 1 24 _ infoBd Tryz.underlying46 hZ8.own hY8 encBd_len (by omega) rfl encBd_one (by simp; omega) (by omega) hZ8.ge.2 rfl rfl rfl rfl rfl rfl ?_
       intro v9 w9 hown9 hg9
       obtain ⟨A9,c9,hv9⟩:=hown9.slice encBd_len
       subst hv9
       refine ⟨hZ8.blk.grown hg9 (fun e=>hZ8.own.notBlk hZ8.blk (by decide) e.symm),?_⟩
       simp only [Act.put,nqa,nqb,nqc,nqd,nqe,nqf]
       refine M5.mix_take 11 (.pointer (some ⟨g,2,none⟩)) (by kernel_rfl) rfl (by kernel_rfl) rfl (fun _=>by go_simp) ?_
       simp only [Act.put,nqa,nqb,nqc,nqd,nqe,nqf]
       refine M5.mix_last (by kernel_rfl) (by kernel_rfl) ?_
       intro w10 hC10 hb10
       have z:=hC10.cell 2
       have fz:=hC10.frozen 2
       have lg:=hC10.lt
       simp only [nqg,nqh,nqi] at z
       have HZ11:=Lib.hid (hZ8.set hlt hgw hgR (hown9.adv hb10) (only_adv hg9 hb10) 2 rfl)
       refine M3.mix_skip (w10.setCell ⟨g,2,none⟩ (.slice A9 (l++[(⟨nm,AT⟩ : BandT)]).length c9)) rfl rfl (by go_simp) ?_
       simp only [Act.put,nqa,nqb,nqc]
       refine hQ0 _ _ ?_
       generalize w10.setCell ⟨g,2,none⟩ (.slice A9 (l++[(⟨nm,AT⟩ : BandT)]).length c9) = w11 at HZ11 ⊢
       clear z fz lg hC10 hb10 hg9 hown9 hZ8 hY8 hC8 hb8 hZ7 hC7 hb7 hZ6 hB hgl hQ0
       go_wp2_with fail
       refine (pickN b w11 [60,1,600] _ _ _ rfl rfl HZ11.out.tape (by simp) (by simp)).mono ?_
       rintro e w12 ⟨q,rfl,hmq,hd12,hg12⟩
       have hqq:1≤q∧q≤600:=by simp at hmq; omega
       have HZ12:=Lib.hid (HZ11.out.next hlt hgw hRw hd12 hg12)
       have HOK2:=Lib.hid (HOK.out.snoc hA0 (by omega) (show AT < AT+q by omega) hnm)
       clear hmq hd12 hg12
       go_wp2
       go_roundw
       case rel=>exact ⟨m - 1,AT+q,_,_,rfl,by congr 1; omega,by simp; omega,by omega,by omega,HOK2.out,HZ12.out⟩
       case measure=>simp [intOf]; omega
    ·
     obtain ⟨A9,c9,hv9⟩:=HZ.out.own.slice encBd_len
     subst hv9
     have hR:=HZ.out.res
     have hRl:=hR.lt
     have hl2:l.length≤16:=by omega
     have HL2:=Lib.hid HOK.out.a
     have x0:=hB.cell 0
     have x1:=hB.cell 1
     have x2:=hB.cell 2
     simp only [nqg,nqh,nqi] at x0 x1 x2
     clear hB
     go_wp2_with (refine wpList_store_blk rfl _ _ _ rfl rfl w.heap.size (cs:=#[.string ⟨#[]⟩,.slice none 0 0,.slice none 0 0]) rfl rfl hR rfl (by kernel_rfl) rfl ?_; intro w6 hB6 hg6)
     have HO6:=Lib.hid ((HZ.out.own.weaken HZ.out.ge.1).keptNe hg6 (fun q hq e=>HZ.out.own.notBlk hR (by decide) (by rw [hq]; exact e.symm)))
     have HO7:=Lib.hid (HZ.out.own1.keptNe hg6 (fun q hq e=>HZ.out.own1.notBlk hR (by decide) (by rw [hq]; exact e.symm)))
     have HD6:=Lib.hid (HZ.out.tape.grown hg6 (fun q e=>by injection e; omega))
     have HG6:=Lib.hid (only_then HZ.out.grown hg6 (fun q e=>by injection e with e; exact .inl (by omega)))
     have HB6:=Lib.hid hB6
     clear hg6 hB6 hR
     go_wp2
     exact bodyPost_ret (results_blk rfl rfl HB6.out Tryz.underlying48 rfl (by kernel_rfl)) rfl ⟨⟨⟨#[110,111,114,109,97,108]⟩,A1,c1,dl,A9,c9,l⟩,rfl,.inl rfl,hl16,hl2,HL1.out,HL2.out,HO7.out,HO6.out,HD6.out,HG6.out⟩
end
end Go.Proofs.YtopekilofdadnaaGreatDoor
