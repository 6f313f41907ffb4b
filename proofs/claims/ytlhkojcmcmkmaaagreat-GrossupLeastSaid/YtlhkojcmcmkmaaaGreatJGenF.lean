/- Joined texts: GenF. Conditions: as stated. -/
import Derived.Test.YtlhkojcmcmkmaaaGreatJDedV
import Derived.Test.YtlhkojcmcmkmaaaGreatJGenT
import Derived.Test.YtlhkojcmcmkmaaaGreatJGenB
namespace Go.Proofs.YtlhkojcmcmkmaaaGreat
open Go.RowKit
structure FrS {α:Type} (enc:α→List Value) (k:Nat) (w:World) (base:Nat) (A:Option Addr) (xs:List α) : Prop where
 sl:SliceOf enc k w w.heap.size A xs
 fr:∀ a,A = some a→base≤a.block
section
variable {α:Type} {enc:α→List Value} {k:Nat} {w w':World} {base:Nat} {A:Option Addr} {xs:List α}
theorem FrS.nil_ (w:World) (base:Nat) : FrS enc k w base none ([] : List α):=⟨SliceOf.nil_,by simp⟩
theorem FrS.grown {row:Option Nat} (h:FrS enc k w base A xs) (hg:w.grownBy w' row) (hr : ∀ g,row = some g→g < base) : FrS enc k w' base A xs :=
 ⟨h.sl.advN hg (fun a ha e=>by have h1:=h.fr a ha; have h2:=hr _ e; omega),h.fr⟩
theorem FrS.adv (h:FrS enc k w base A xs) (hb:Below w.heap.size w w') : FrS enc k w' base A xs:=⟨h.sl.adv hb,h.fr⟩
theorem FrS.alloc (h:FrS enc k w base A xs) (o:Obj) : FrS enc k (w.alloc o) base A xs:=h.adv (below_new w o)
theorem FrS.set (h:FrS enc k w base A xs) {g:Nat} (hg:g < base) (i:Nat) (u:Value) : FrS enc k (w.setCell ⟨g,i,none⟩ u) base A xs :=
 h.grown (row:=some g) (only_setCell (p:=⟨g,i,none⟩) (only_refl _ _) (.inl rfl) u) (fun q e=>by injection e; omega)
theorem FrS.weaken {base' : Nat} (h:FrS enc k w base A xs) (hb:base'≤base) : FrS enc k w base' A xs:=⟨h.sl,fun a ha=>Nat.le_trans hb (h.fr a ha)⟩
theorem Own.fresh {e:TypeId} {v:Value} (h:Own enc k e w base v xs) (hk : ∀ x,(enc x).length = k) : ∃ A c,v = .slice A xs.length c∧FrS enc k w base A xs:=by
 obtain ⟨A,c,hv,hs,hf,_⟩:=h.form hk
 exact ⟨A,c,hv,hs,hf⟩
theorem Own.blk_lt {e:TypeId} {n c : Nat} (h:Own enc k e w base (.slice A n c) xs) : ∀ a,A = some a→a.block < w.heap.size:=fun a ha=>by subst ha; exact (h.block_lt rfl).2
end
structure TarF (m:TarM) (w:World) (base:Nat) : Prop where
 brs:FrS encBr 2 w base m.Ab m.t.brs
 rows:FrS encRw 2 w base m.Ar m.t.rows
theorem TarF.grown {m:TarM} {w w' : World} {base:Nat} {row:Option Nat} (h:TarF m w base) (hg:w.grownBy w' row) (hr : ∀ g,row = some g→g < base) : TarF m w' base:=⟨h.brs.grown hg hr,h.rows.grown hg hr⟩
def MethIs (mth:Int) (m:TarM) : Prop:=mth = 0 ∨ m.t.method = mth
set_option maxRecDepth 100000 in
set_option maxHeartbeats 4000000 in
theorem tariff_any (b M : Nat) (mth:Int) (h0:0≤mth) (h3:mth≤3) (w:World) (hM:M≤500000) (hd:DeckIn w b M) :
  Calls Tryz.prog 65 #[.pointer (some ⟨b,0,none⟩),.int .i64 mth] w fun e w'=>∃ m:TarM,e = .returned (.agg #[.int .i64 m.t.method,.slice m.Ab m.t.brs.length m.cb,.int .i64 m.t.allowance,.int .i64 m.t.credit,.int .i64 m.t.unit,.int .i64 m.t.mode,.slice m.Ar m.t.rows.length m.cr])∧TarOk m.t∧MethIs mth m∧TarF m w' (w.heap.size+1)∧DeckIn w' b (M+40)∧w.grownBy w' (some b):=by
 have hlt:=hd.lt
 go_enter Tryz.func65,Tryz.ntmps65
 go_wp2_with fail
 refine (next_any b M _ _ (by omega) (by omega) (by omega) (hd.alloc _)).mono ?_
 rintro e w1 ⟨r1,rfl,ha1,hb1,hd1,hg1⟩
 go_wp2_with fail
 refine (brackets_any b (M+1) _ _ (by omega) hd1).mono ?_
 rintro e w2 ⟨v2,brs,rfl,hbr,hob,hd2,hg2⟩
 obtain ⟨Ab,cb,rfl,hB2⟩:=hob.fresh encBr_len
 have HBR:=Lib.hid hbr
 have hgB2:=hob.blk_lt
 clear hbr hob
 go_wp2_with fail
 refine (pick_new b (M+1+17) w2 [0,600000,1200000,7] _ _ _ rfl rfl (by omega) hd2 (by simp) (by simp)).mono ?_
 rintro e w3 ⟨r3,rfl,hm3,hd3,hg3⟩
 go_wp2_with fail
 refine (pick_new b (M+1+17+1) w3 [0,0,12000,1] _ _ _ rfl rfl (by omega) hd3 (by simp) (by simp)).mono ?_
 rintro e w4 ⟨r4,rfl,hm4,hd4,hg4⟩
 go_wp2_with fail
 refine (pick_new b (M+1+17+1+1) w4 [1,1,100,10] _ _ _ rfl rfl (by omega) hd4 (by simp) (by simp)).mono ?_
 rintro e w5 ⟨r5,rfl,hm5,hd5,hg5⟩
 go_wp2_with fail
 refine (mode_any b (M+1+17+1+1+1) _ (by omega) hd5).mono ?_
 rintro e w6 ⟨r6,rfl,ha6,hb6,hd6,hg6⟩
 have hs1:w.heap.size+1≤w1.heap.size:=by have:=hg1.size; rw [World.size_alloc] at this; omega
 have hG26:=only_trans (only_trans (only_trans hg3 hg4) hg5) hg6
 have hg26:=hG26
 have hB6:=(hB2.weaken hs1).grown hG26 (fun g e=>by injection e; omega)
 have hG:w.grownBy w6 (some b):=only_trans (only_trans (only_trans (only_alloc (only_refl _ _) _) hg1) hg2) hG26
 have hR:=(((Blk.new w 41 #[.int .i64 0,.slice none 0 0,.int .i64 0,.int .i64 0,.int .i64 0,.int .i64 0,.slice none 0 0]).grown hg1 (by intro e; injection e; omega)).grown hg2 (by intro e; injection e; omega)).grown hG26 (by intro e; injection e; omega)
 have hdr3:0≤r3∧r3≤1200000:=by simp at hm3; omega
 have hdr4:0≤r4∧r4≤12000:=by simp at hm4; omega
 have hdr5:1≤r5∧r5≤100:=by simp at hm5; omega
 have hlr:=hR.lt
 clear hg1 hg2 hg3 hg4 hg5 hg6 hd1 hd2 hd3 hd4 hd5 hd hm3 hm4 hm5 hB2 hG26
 have hX0:=Blk.new w6 41 #[.int .i64 mth,.slice Ab brs.length cb,.int .i64 r3,.int .i64 r4,.int .i64 r5,.int .i64 r6,.slice none 0 0]
 have hR0:=hR.alloc (Obj.cells #[.int .i64 mth,.slice Ab brs.length cb,.int .i64 r3,.int .i64 r4,.int .i64 r5,.int .i64 r6,.slice none 0 0] 41)
 have hd0:=hd6.alloc (Obj.cells #[.int .i64 mth,.slice Ab brs.length cb,.int .i64 r3,.int .i64 r4,.int .i64 r5,.int .i64 r6,.slice none 0 0] 41)
 have hG0:=only_alloc hG (Obj.cells #[.int .i64 mth,.slice Ab brs.length cb,.int .i64 r3,.int .i64 r4,.int .i64 r5,.int .i64 r6,.slice none 0 0] 41)
 have hB0:=hB6.alloc (Obj.cells #[.int .i64 mth,.slice Ab brs.length cb,.int .i64 r3,.int .i64 r4,.int .i64 r5,.int .i64 r6,.slice none 0 0] 41)
 have hgR:w.heap.size ≠ w6.heap.size:=by omega
 have hbg:b < w6.heap.size:=by have:=hd6.lt; omega
 have hgs:w.heap.size≤w6.heap.size:=by omega
 have hgB:∀ a,Ab = some a→a.block ≠ w6.heap.size:=fun a ha=>by have:=hgB2 a ha; have:=hg26.size; omega
 clear hg26 hgB2
 go_upto_region 2 with fail
 generalize w6.alloc (Obj.cells #[.int .i64 mth,.slice Ab brs.length cb,.int .i64 r3,.int .i64 r4,.int .i64 r5,.int .i64 r6,.slice none 0 0] 41) = w0 at *
 generalize w6.heap.size = g at *
 clear hd6 hG hR hB6
 by_cases hm0:mth = 0
 ·
  subst hm0
  go_upto_region 3 with fail
  go_wp2_with fail
  refine (next_any b (M+1+17+1+1+1+1) _ _ (by omega) (by omega) (by omega) hd0).mono ?_
  rintro e w7 ⟨r7,rfl,ha7,hb7,hd7,hg7⟩
  have hX7:=hX0.grown hg7 (by intro e; injection e; omega)
  have hR7:=hR0.grown hg7 (by intro e; injection e; omega)
  have hB7:=hB0.grown hg7 (fun g e=>by injection e; omega)
  have hG7:=only_trans hG0 hg7
  have z:=hX7.cell 0
  have fz:=hX7.frozen 0
  have lg:=hX7.lt
  simp only [nqg,nqh] at z
  have hX8:=hX7.set_ 0 (.int .i64 (1+r7))
  simp only [List.setIfInBounds_toArray,List.set_cons_zero] at hX8
  have hR8:=hR7.far (p:=⟨g,0,none⟩) hgR (.int .i64 (1+r7))
  have hd8:=hd7.set hbg 0 (.int .i64 (1+r7))
  have hG8:=only_setCell (p:=⟨g,0,none⟩) hG7 (.inr hgs) (.int .i64 (1+r7))
  have hB8:FrS encBr 2 (w7.setCell ⟨g,0,none⟩ (.int .i64 (1+r7))) (w.heap.size+1) Ab brs:=⟨hB7.sl.advN (row:=some g) (only_setCell (p:=⟨g,0,none⟩) (only_refl _ _) (.inl rfl) _) (fun a ha e=>hgB a ha (by injection e with e; exact e.symm)),hB7.fr⟩
  go_upto_region 4 with fail
  clear z fz lg hX7 hR7 hd7 hG7 hB7 hX0 hR0 hd0 hG0 hB0 hg7
  generalize w7.setCell ⟨g,0,none⟩ (.int .i64 (1+r7)) = w8 at *
  obtain ⟨me,hme'⟩ : ∃ me,me = 1+r7:=⟨_,rfl⟩
  have hme:1≤me∧me≤3:=by omega
  rw [← hme'] at hX8 ⊢
  clear hme'
  have x0:=hX8.cell 0
  have x1:=hX8.cell 1
  have x2:=hX8.cell 2
  have x3:=hX8.cell 3
  have x4:=hX8.cell 4
  have x5:=hX8.cell 5
  have x6:=hX8.cell 6
  simp only [nqg,nqh,nqi] at x0 x1 x2 x3 x4 x5 x6
  have l1:=hX8.lt
  by_cases ht:me = 1
  ·
   have ht':(me == 1) = true:=by simpa using ht
   have HT:=Lib.hid ht
   clear ht
   go_wp2_with fail
   refine (rows_any b (M+1+17+1+1+1+1+1) _ (by omega) hd8).mono ?_
   rintro e w21 ⟨v21,rows,rfl,hrows,hor,hd21,hg21⟩
   obtain ⟨Ar,cr,rfl,hW21'⟩:=hor.fresh encRw_len
   have hs21:w.heap.size+1≤w8.heap.size:=by omega
   have hW21:=hW21'.weaken hs21
   have HRW:=Lib.hid hrows
   have hgW:∀ a,Ar = some a→a.block ≠ g:=fun a ha=>by have:=hW21'.fr a ha; omega
   clear hrows hor hW21'
   have hX21:=hX8.grown hg21 (by intro e; injection e; omega)
   have hR21:=hR8.grown hg21 (by intro e; injection e; omega)
   have hB21:=hB8.grown hg21 (fun g e=>by injection e; omega)
   have hG21:=only_trans hG8 hg21
   clear x0 x1 x2 x3 x4 x5 x6 l1
   clear hX8 hR8 hB8 hd8 hG8 hg21 hs21
   have z:=hX21.cell 6
   have fz:=hX21.frozen 6
   have lg:=hX21.lt
   simp only [nqg,nqh,nqi] at z
   have hX22:=hX21.set_ 6 (.slice Ar rows.length cr)
   simp only [List.setIfInBounds_toArray,List.set_cons_succ,List.set_cons_zero] at hX22
   have hR22:=hR21.far (p:=⟨g,6,none⟩) hgR (.slice Ar rows.length cr)
   have hd22:=hd21.set hbg 6 (.slice Ar rows.length cr)
   have hG22:=only_setCell (p:=⟨g,6,none⟩) hG21 (.inr hgs) (.slice Ar rows.length cr)
   have hgo:World.grownBy w21 (w21.setCell ⟨g,6,none⟩ (.slice Ar rows.length cr)) (some g):=only_setCell (p:=⟨g,6,none⟩) (only_refl _ _) (.inl rfl) _
   have hB22:FrS encBr 2 _ (w.heap.size+1) Ab brs:=⟨hB21.sl.advN hgo (fun a ha e=>hgB a ha (by injection e with e; exact e.symm)),hB21.fr⟩
   have hW22:FrS encRw 2 _ (w.heap.size+1) Ar rows:=⟨hW21.sl.advN hgo (fun a ha e=>hgW a ha (by injection e with e; exact e.symm)),hW21.fr⟩
   go_upto_region 6 with fail
   clear z fz lg hX21 hR21 hd21 hG21 hgo hB21 hW21 ht'
   generalize w21.setCell ⟨g,6,none⟩ (.slice Ar rows.length cr) = w22 at *
   have x0:=hX22.cell 0
   have x1:=hX22.cell 1
   have x2:=hX22.cell 2
   have x3:=hX22.cell 3
   have x4:=hX22.cell 4
   have x5:=hX22.cell 5
   have x6:=hX22.cell 6
   simp only [nqg,nqh,nqi] at x0 x1 x2 x3 x4 x5 x6
   have l1:=hX22.lt
   clear hX22
   have y0:=hR22.cell 0
   have y1:=hR22.cell 1
   have y2:=hR22.cell 2
   have y3:=hR22.cell 3
   have y4:=hR22.cell 4
   have y5:=hR22.cell 5
   have y6:=hR22.cell 6
   simp only [nqg,nqh,nqi] at y0 y1 y2 y3 y4 y5 y6
   have fy0:=hR22.frozen 0
   have fy1:=hR22.frozen 1
   have fy2:=hR22.frozen 2
   have fy3:=hR22.frozen 3
   have fy4:=hR22.frozen 4
   have fy5:=hR22.frozen 5
   have fy6:=hR22.frozen 6
   have l2:=hR22.lt
   have hfin:=hR22.fill [.int .i64 me,.slice Ab brs.length cb,.int .i64 r3,.int .i64 r4,.int .i64 r5,.int .i64 r6,.slice Ar rows.length cr] rfl
   simp only [putAll,Nat.zero_add,Nat.reduceAdd] at hfin
   have hdF:=(DeckIn.set (DeckIn.set (DeckIn.set (DeckIn.set (DeckIn.set (DeckIn.set (DeckIn.set hd22 (g:=w.heap.size) hlt 0 (.int .i64 me)) (g:=w.heap.size) hlt 1 (.slice Ab brs.length cb)) (g:=w.heap.size) hlt 2 (.int .i64 r3)) (g:=w.heap.size) hlt 3 (.int .i64 r4)) (g:=w.heap.size) hlt 4 (.int .i64 r5)) (g:=w.heap.size) hlt 5 (.int .i64 r6)) (g:=w.heap.size) hlt 6 (.slice Ar rows.length cr))
   have hGF:=(only_setCell (p:=⟨w.heap.size,6,none⟩) (only_setCell (p:=⟨w.heap.size,5,none⟩) (only_setCell (p:=⟨w.heap.size,4,none⟩) (only_setCell (p:=⟨w.heap.size,3,none⟩) (only_setCell (p:=⟨w.heap.size,2,none⟩) (only_setCell (p:=⟨w.heap.size,1,none⟩) (only_setCell (p:=⟨w.heap.size,0,none⟩) hG22 (.inr (Nat.le_refl _)) (.int .i64 me)) (.inr (Nat.le_refl _)) (.slice Ab brs.length cb)) (.inr (Nat.le_refl _)) (.int .i64 r3)) (.inr (Nat.le_refl _)) (.int .i64 r4)) (.inr (Nat.le_refl _)) (.int .i64 r5)) (.inr (Nat.le_refl _)) (.int .i64 r6)) (.inr (Nat.le_refl _)) (.slice Ar rows.length cr))
   have hBF:=(((((((hB22.set (g:=w.heap.size) (by omega) 0 (.int .i64 me)).set (g:=w.heap.size) (by omega) 1 (.slice Ab brs.length cb)).set (g:=w.heap.size) (by omega) 2 (.int .i64 r3)).set (g:=w.heap.size) (by omega) 3 (.int .i64 r4)).set (g:=w.heap.size) (by omega) 4 (.int .i64 r5)).set (g:=w.heap.size) (by omega) 5 (.int .i64 r6)).set (g:=w.heap.size) (by omega) 6 (.slice Ar rows.length cr))
   have hWF:=(((((((hW22.set (g:=w.heap.size) (by omega) 0 (.int .i64 me)).set (g:=w.heap.size) (by omega) 1 (.slice Ab brs.length cb)).set (g:=w.heap.size) (by omega) 2 (.int .i64 r3)).set (g:=w.heap.size) (by omega) 3 (.int .i64 r4)).set (g:=w.heap.size) (by omega) 4 (.int .i64 r5)).set (g:=w.heap.size) (by omega) 5 (.int .i64 r6)).set (g:=w.heap.size) (by omega) 6 (.slice Ar rows.length cr))
   clear hR22 hd22 hG22 hB22 hW22
   go_wp2_with fail
   generalize World.setCell _ ⟨w.heap.size,6,none⟩ _ = WW at hfin hdF hGF hBF hWF ⊢
   have q0:=hfin.cell 0
   have q1:=hfin.cell 1
   have q2:=hfin.cell 2
   have q3:=hfin.cell 3
   have q4:=hfin.cell 4
   have q5:=hfin.cell 5
   have q6:=hfin.cell 6
   simp only [nqg,nqh,nqi] at q0 q1 q2 q3 q4 q5 q6
   refine bodyPost_ret (v:=.agg #[.int .i64 me,.slice Ab brs.length cb,.int .i64 r3,.int .i64 r4,.int .i64 r5,.int .i64 r6,.slice Ar rows.length cr]) ?_ rfl (⟨⟨⟨me,brs,r3,r4,r5,r6,rows⟩,Ab,cb,Ar,cr⟩,rfl,⟨hme.1,hme.2,HBR.out,hdr3.1,by show r3≤_; omega,hdr4.1,by show r4≤_; omega,hdr5.1,hdr5.2,ha6,hb6,fun _=>HRW.out,fun h=>absurd HT.out h⟩,.inl rfl,⟨hBF,hWF⟩,hdF.mono (by omega),hGF⟩)
   simp [results,Tryz.results65,go_sem,q0,q1,q2,q3,q4,q5,q6]
  ·
   have ht':(me == 1) = false:=by simpa using ht
   have hW8:FrS encRw 2 w8 (w.heap.size+1) none ([] : List RowT):=FrS.nil_ _ _
   have HT:=Lib.hid ht
   clear hX8 ht
   have y0:=hR8.cell 0
   have y1:=hR8.cell 1
   have y2:=hR8.cell 2
   have y3:=hR8.cell 3
   have y4:=hR8.cell 4
   have y5:=hR8.cell 5
   have y6:=hR8.cell 6
   simp only [nqg,nqh,nqi] at y0 y1 y2 y3 y4 y5 y6
   have fy0:=hR8.frozen 0
   have fy1:=hR8.frozen 1
   have fy2:=hR8.frozen 2
   have fy3:=hR8.frozen 3
   have fy4:=hR8.frozen 4
   have fy5:=hR8.frozen 5
   have fy6:=hR8.frozen 6
   have l2:=hR8.lt
   have hfin:=hR8.fill [.int .i64 me,.slice Ab brs.length cb,.int .i64 r3,.int .i64 r4,.int .i64 r5,.int .i64 r6,.slice none 0 0] rfl
   simp only [putAll,Nat.zero_add,Nat.reduceAdd] at hfin
   have hdF:=(DeckIn.set (DeckIn.set (DeckIn.set (DeckIn.set (DeckIn.set (DeckIn.set (DeckIn.set hd8 (g:=w.heap.size) hlt 0 (.int .i64 me)) (g:=w.heap.size) hlt 1 (.slice Ab brs.length cb)) (g:=w.heap.size) hlt 2 (.int .i64 r3)) (g:=w.heap.size) hlt 3 (.int .i64 r4)) (g:=w.heap.size) hlt 4 (.int .i64 r5)) (g:=w.heap.size) hlt 5 (.int .i64 r6)) (g:=w.heap.size) hlt 6 (.slice none 0 0))
   have hGF:=(only_setCell (p:=⟨w.heap.size,6,none⟩) (only_setCell (p:=⟨w.heap.size,5,none⟩) (only_setCell (p:=⟨w.heap.size,4,none⟩) (only_setCell (p:=⟨w.heap.size,3,none⟩) (only_setCell (p:=⟨w.heap.size,2,none⟩) (only_setCell (p:=⟨w.heap.size,1,none⟩) (only_setCell (p:=⟨w.heap.size,0,none⟩) hG8 (.inr (Nat.le_refl _)) (.int .i64 me)) (.inr (Nat.le_refl _)) (.slice Ab brs.length cb)) (.inr (Nat.le_refl _)) (.int .i64 r3)) (.inr (Nat.le_refl _)) (.int .i64 r4)) (.inr (Nat.le_refl _)) (.int .i64 r5)) (.inr (Nat.le_refl _)) (.int .i64 r6)) (.inr (Nat.le_refl _)) (.slice none 0 0))
   have hBF:=(((((((hB8.set (g:=w.heap.size) (by omega) 0 (.int .i64 me)).set (g:=w.heap.size) (by omega) 1 (.slice Ab brs.length cb)).set (g:=w.heap.size) (by omega) 2 (.int .i64 r3)).set (g:=w.heap.size) (by omega) 3 (.int .i64 r4)).set (g:=w.heap.size) (by omega) 4 (.int .i64 r5)).set (g:=w.heap.size) (by omega) 5 (.int .i64 r6)).set (g:=w.heap.size) (by omega) 6 (.slice none 0 0))
   have hWF:=(((((((hW8.set (g:=w.heap.size) (by omega) 0 (.int .i64 me)).set (g:=w.heap.size) (by omega) 1 (.slice Ab brs.length cb)).set (g:=w.heap.size) (by omega) 2 (.int .i64 r3)).set (g:=w.heap.size) (by omega) 3 (.int .i64 r4)).set (g:=w.heap.size) (by omega) 4 (.int .i64 r5)).set (g:=w.heap.size) (by omega) 5 (.int .i64 r6)).set (g:=w.heap.size) (by omega) 6 (.slice none 0 0))
   clear hR8 hd8 hG8 hB8 hW8
   go_wp2_with fail
   generalize World.setCell _ ⟨w.heap.size,6,none⟩ _ = WW at hfin hdF hGF hBF hWF ⊢
   have q0:=hfin.cell 0
   have q1:=hfin.cell 1
   have q2:=hfin.cell 2
   have q3:=hfin.cell 3
   have q4:=hfin.cell 4
   have q5:=hfin.cell 5
   have q6:=hfin.cell 6
   simp only [nqg,nqh,nqi] at q0 q1 q2 q3 q4 q5 q6
   refine bodyPost_ret (v:=.agg #[.int .i64 me,.slice Ab brs.length cb,.int .i64 r3,.int .i64 r4,.int .i64 r5,.int .i64 r6,.slice none 0 0]) ?_ rfl (⟨⟨⟨me,brs,r3,r4,r5,r6,[]⟩,Ab,cb,none,0⟩,rfl,⟨hme.1,hme.2,HBR.out,hdr3.1,by show r3≤_; omega,hdr4.1,by show r4≤_; omega,hdr5.1,hdr5.2,ha6,hb6,fun h=>absurd h HT.out,fun _=>rfl⟩,.inl rfl,⟨hBF,hWF⟩,hdF.mono (by omega),hGF⟩)
   simp [results,Tryz.results65,go_sem,q0,q1,q2,q3,q4,q5,q6]
 ·
  have hm0':(mth == 0) = false:=by simpa using hm0
  have hme:1≤mth∧mth≤3:=by omega
  clear hm0
  go_upto_region 4 with fail
  have hX8:=hX0
  have hR8:=hR0
  have hd8:=hd0
  have hG8:=hG0
  have hB8:=hB0
  clear hX0 hR0 hd0 hG0 hB0
  generalize w0 = w8 at *
  have x0:=hX8.cell 0
  have x1:=hX8.cell 1
  have x2:=hX8.cell 2
  have x3:=hX8.cell 3
  have x4:=hX8.cell 4
  have x5:=hX8.cell 5
  have x6:=hX8.cell 6
  simp only [nqg,nqh,nqi] at x0 x1 x2 x3 x4 x5 x6
  have l1:=hX8.lt
  by_cases ht:mth = 1
  ·
   have ht':(mth == 1) = true:=by simpa using ht
   have HT:=Lib.hid ht
   clear ht
   go_wp2_with fail
   refine (rows_any b (M+1+17+1+1+1+1) _ (by omega) hd8).mono ?_
   rintro e w21 ⟨v21,rows,rfl,hrows,hor,hd21,hg21⟩
   obtain ⟨Ar,cr,rfl,hW21'⟩:=hor.fresh encRw_len
   have hs21:w.heap.size+1≤w8.heap.size:=by omega
   have hW21:=hW21'.weaken hs21
   have HRW:=Lib.hid hrows
   have hgW:∀ a,Ar = some a→a.block ≠ g:=fun a ha=>by have:=hW21'.fr a ha; omega
   clear hrows hor hW21'
   have hX21:=hX8.grown hg21 (by intro e; injection e; omega)
   have hR21:=hR8.grown hg21 (by intro e; injection e; omega)
   have hB21:=hB8.grown hg21 (fun g e=>by injection e; omega)
   have hG21:=only_trans hG8 hg21
   clear x0 x1 x2 x3 x4 x5 x6 l1
   clear hX8 hR8 hB8 hd8 hG8 hg21 hs21
   have z:=hX21.cell 6
   have fz:=hX21.frozen 6
   have lg:=hX21.lt
   simp only [nqg,nqh,nqi] at z
   have hX22:=hX21.set_ 6 (.slice Ar rows.length cr)
   simp only [List.setIfInBounds_toArray,List.set_cons_succ,List.set_cons_zero] at hX22
   have hR22:=hR21.far (p:=⟨g,6,none⟩) hgR (.slice Ar rows.length cr)
   have hd22:=hd21.set hbg 6 (.slice Ar rows.length cr)
   have hG22:=only_setCell (p:=⟨g,6,none⟩) hG21 (.inr hgs) (.slice Ar rows.length cr)
   have hgo:World.grownBy w21 (w21.setCell ⟨g,6,none⟩ (.slice Ar rows.length cr)) (some g):=only_setCell (p:=⟨g,6,none⟩) (only_refl _ _) (.inl rfl) _
   have hB22:FrS encBr 2 _ (w.heap.size+1) Ab brs:=⟨hB21.sl.advN hgo (fun a ha e=>hgB a ha (by injection e with e; exact e.symm)),hB21.fr⟩
   have hW22:FrS encRw 2 _ (w.heap.size+1) Ar rows:=⟨hW21.sl.advN hgo (fun a ha e=>hgW a ha (by injection e with e; exact e.symm)),hW21.fr⟩
   go_upto_region 6 with fail
   clear z fz lg hX21 hR21 hd21 hG21 hgo hB21 hW21 ht'
   generalize w21.setCell ⟨g,6,none⟩ (.slice Ar rows.length cr) = w22 at *
   have x0:=hX22.cell 0
   have x1:=hX22.cell 1
   have x2:=hX22.cell 2
   have x3:=hX22.cell 3
   have x4:=hX22.cell 4
   have x5:=hX22.cell 5
   have x6:=hX22.cell 6
   simp only [nqg,nqh,nqi] at x0 x1 x2 x3 x4 x5 x6
   have l1:=hX22.lt
   clear hX22
   have y0:=hR22.cell 0
   have y1:=hR22.cell 1
   have y2:=hR22.cell 2
   have y3:=hR22.cell 3
   have y4:=hR22.cell 4
   have y5:=hR22.cell 5
   have y6:=hR22.cell 6
   simp only [nqg,nqh,nqi] at y0 y1 y2 y3 y4 y5 y6
   have fy0:=hR22.frozen 0
   have fy1:=hR22.frozen 1
   have fy2:=hR22.frozen 2
   have fy3:=hR22.frozen 3
   have fy4:=hR22.frozen 4
   have fy5:=hR22.frozen 5
   have fy6:=hR22.frozen 6
   have l2:=hR22.lt
   have hfin:=hR22.fill [.int .i64 mth,.slice Ab brs.length cb,.int .i64 r3,.int .i64 r4,.int .i64 r5,.int .i64 r6,.slice Ar rows.length cr] rfl
   simp only [putAll,Nat.zero_add,Nat.reduceAdd] at hfin
   have hdF:=(DeckIn.set (DeckIn.set (DeckIn.set (DeckIn.set (DeckIn.set (DeckIn.set (DeckIn.set hd22 (g:=w.heap.size) hlt 0 (.int .i64 mth)) (g:=w.heap.size) hlt 1 (.slice Ab brs.length cb)) (g:=w.heap.size) hlt 2 (.int .i64 r3)) (g:=w.heap.size) hlt 3 (.int .i64 r4)) (g:=w.heap.size) hlt 4 (.int .i64 r5)) (g:=w.heap.size) hlt 5 (.int .i64 r6)) (g:=w.heap.size) hlt 6 (.slice Ar rows.length cr))
   have hGF:=(only_setCell (p:=⟨w.heap.size,6,none⟩) (only_setCell (p:=⟨w.heap.size,5,none⟩) (only_setCell (p:=⟨w.heap.size,4,none⟩) (only_setCell (p:=⟨w.heap.size,3,none⟩) (only_setCell (p:=⟨w.heap.size,2,none⟩) (only_setCell (p:=⟨w.heap.size,1,none⟩) (only_setCell (p:=⟨w.heap.size,0,none⟩) hG22 (.inr (Nat.le_refl _)) (.int .i64 mth)) (.inr (Nat.le_refl _)) (.slice Ab brs.length cb)) (.inr (Nat.le_refl _)) (.int .i64 r3)) (.inr (Nat.le_refl _)) (.int .i64 r4)) (.inr (Nat.le_refl _)) (.int .i64 r5)) (.inr (Nat.le_refl _)) (.int .i64 r6)) (.inr (Nat.le_refl _)) (.slice Ar rows.length cr))
   have hBF:=(((((((hB22.set (g:=w.heap.size) (by omega) 0 (.int .i64 mth)).set (g:=w.heap.size) (by omega) 1 (.slice Ab brs.length cb)).set (g:=w.heap.size) (by omega) 2 (.int .i64 r3)).set (g:=w.heap.size) (by omega) 3 (.int .i64 r4)).set (g:=w.heap.size) (by omega) 4 (.int .i64 r5)).set (g:=w.heap.size) (by omega) 5 (.int .i64 r6)).set (g:=w.heap.size) (by omega) 6 (.slice Ar rows.length cr))
   have hWF:=(((((((hW22.set (g:=w.heap.size) (by omega) 0 (.int .i64 mth)).set (g:=w.heap.size) (by omega) 1 (.slice Ab brs.length cb)).set (g:=w.heap.size) (by omega) 2 (.int .i64 r3)).set (g:=w.heap.size) (by omega) 3 (.int .i64 r4)).set (g:=w.heap.size) (by omega) 4 (.int .i64 r5)).set (g:=w.heap.size) (by omega) 5 (.int .i64 r6)).set (g:=w.heap.size) (by omega) 6 (.slice Ar rows.length cr))
   clear hR22 hd22 hG22 hB22 hW22
   go_wp2_with fail
   generalize World.setCell _ ⟨w.heap.size,6,none⟩ _ = WW at hfin hdF hGF hBF hWF ⊢
   have q0:=hfin.cell 0
   have q1:=hfin.cell 1
   have q2:=hfin.cell 2
   have q3:=hfin.cell 3
   have q4:=hfin.cell 4
   have q5:=hfin.cell 5
   have q6:=hfin.cell 6
   simp only [nqg,nqh,nqi] at q0 q1 q2 q3 q4 q5 q6
   refine bodyPost_ret (v:=.agg #[.int .i64 mth,.slice Ab brs.length cb,.int .i64 r3,.int .i64 r4,.int .i64 r5,.int .i64 r6,.slice Ar rows.length cr]) ?_ rfl (⟨⟨⟨mth,brs,r3,r4,r5,r6,rows⟩,Ab,cb,Ar,cr⟩,rfl,⟨hme.1,hme.2,HBR.out,hdr3.1,by show r3≤_; omega,hdr4.1,by show r4≤_; omega,hdr5.1,hdr5.2,ha6,hb6,fun _=>HRW.out,fun h=>absurd HT.out h⟩,.inr rfl,⟨hBF,hWF⟩,hdF.mono (by omega),hGF⟩)
   simp [results,Tryz.results65,go_sem,q0,q1,q2,q3,q4,q5,q6]
  ·
   have ht':(mth == 1) = false:=by simpa using ht
   have hW8:FrS encRw 2 w8 (w.heap.size+1) none ([] : List RowT):=FrS.nil_ _ _
   have HT:=Lib.hid ht
   clear hX8 ht
   have y0:=hR8.cell 0
   have y1:=hR8.cell 1
   have y2:=hR8.cell 2
   have y3:=hR8.cell 3
   have y4:=hR8.cell 4
   have y5:=hR8.cell 5
   have y6:=hR8.cell 6
   simp only [nqg,nqh,nqi] at y0 y1 y2 y3 y4 y5 y6
   have fy0:=hR8.frozen 0
   have fy1:=hR8.frozen 1
   have fy2:=hR8.frozen 2
   have fy3:=hR8.frozen 3
   have fy4:=hR8.frozen 4
   have fy5:=hR8.frozen 5
   have fy6:=hR8.frozen 6
   have l2:=hR8.lt
   have hfin:=hR8.fill [.int .i64 mth,.slice Ab brs.length cb,.int .i64 r3,.int .i64 r4,.int .i64 r5,.int .i64 r6,.slice none 0 0] rfl
   simp only [putAll,Nat.zero_add,Nat.reduceAdd] at hfin
   have hdF:=(DeckIn.set (DeckIn.set (DeckIn.set (DeckIn.set (DeckIn.set (DeckIn.set (DeckIn.set hd8 (g:=w.heap.size) hlt 0 (.int .i64 mth)) (g:=w.heap.size) hlt 1 (.slice Ab brs.length cb)) (g:=w.heap.size) hlt 2 (.int .i64 r3)) (g:=w.heap.size) hlt 3 (.int .i64 r4)) (g:=w.heap.size) hlt 4 (.int .i64 r5)) (g:=w.heap.size) hlt 5 (.int .i64 r6)) (g:=w.heap.size) hlt 6 (.slice none 0 0))
   have hGF:=(only_setCell (p:=⟨w.heap.size,6,none⟩) (only_setCell (p:=⟨w.heap.size,5,none⟩) (only_setCell (p:=⟨w.heap.size,4,none⟩) (only_setCell (p:=⟨w.heap.size,3,none⟩) (only_setCell (p:=⟨w.heap.size,2,none⟩) (only_setCell (p:=⟨w.heap.size,1,none⟩) (only_setCell (p:=⟨w.heap.size,0,none⟩) hG8 (.inr (Nat.le_refl _)) (.int .i64 mth)) (.inr (Nat.le_refl _)) (.slice Ab brs.length cb)) (.inr (Nat.le_refl _)) (.int .i64 r3)) (.inr (Nat.le_refl _)) (.int .i64 r4)) (.inr (Nat.le_refl _)) (.int .i64 r5)) (.inr (Nat.le_refl _)) (.int .i64 r6)) (.inr (Nat.le_refl _)) (.slice none 0 0))
   have hBF:=(((((((hB8.set (g:=w.heap.size) (by omega) 0 (.int .i64 mth)).set (g:=w.heap.size) (by omega) 1 (.slice Ab brs.length cb)).set (g:=w.heap.size) (by omega) 2 (.int .i64 r3)).set (g:=w.heap.size) (by omega) 3 (.int .i64 r4)).set (g:=w.heap.size) (by omega) 4 (.int .i64 r5)).set (g:=w.heap.size) (by omega) 5 (.int .i64 r6)).set (g:=w.heap.size) (by omega) 6 (.slice none 0 0))
   have hWF:=(((((((hW8.set (g:=w.heap.size) (by omega) 0 (.int .i64 mth)).set (g:=w.heap.size) (by omega) 1 (.slice Ab brs.length cb)).set (g:=w.heap.size) (by omega) 2 (.int .i64 r3)).set (g:=w.heap.size) (by omega) 3 (.int .i64 r4)).set (g:=w.heap.size) (by omega) 4 (.int .i64 r5)).set (g:=w.heap.size) (by omega) 5 (.int .i64 r6)).set (g:=w.heap.size) (by omega) 6 (.slice none 0 0))
   clear hR8 hd8 hG8 hB8 hW8
   go_wp2_with fail
   generalize World.setCell _ ⟨w.heap.size,6,none⟩ _ = WW at hfin hdF hGF hBF hWF ⊢
   have q0:=hfin.cell 0
   have q1:=hfin.cell 1
   have q2:=hfin.cell 2
   have q3:=hfin.cell 3
   have q4:=hfin.cell 4
   have q5:=hfin.cell 5
   have q6:=hfin.cell 6
   simp only [nqg,nqh,nqi] at q0 q1 q2 q3 q4 q5 q6
   refine bodyPost_ret (v:=.agg #[.int .i64 mth,.slice Ab brs.length cb,.int .i64 r3,.int .i64 r4,.int .i64 r5,.int .i64 r6,.slice none 0 0]) ?_ rfl (⟨⟨⟨mth,brs,r3,r4,r5,r6,[]⟩,Ab,cb,none,0⟩,rfl,⟨hme.1,hme.2,HBR.out,hdr3.1,by show r3≤_; omega,hdr4.1,by show r4≤_; omega,hdr5.1,hdr5.2,ha6,hb6,fun h=>absurd h HT.out,fun _=>rfl⟩,.inr rfl,⟨hBF,hWF⟩,hdF.mono (by omega),hGF⟩)
   simp [results,Tryz.results65,go_sem,q0,q1,q2,q3,q4,q5,q6]
end Go.Proofs.YtlhkojcmcmkmaaaGreat
