/- Joined texts: GenR GenY. Conditions: as stated. -/
import Derived.Test.YtlhkojcmcmkmaaaGreatJGenF
namespace Go.Proofs.YtlhkojcmcmkmaaaGreat
open Go.RowKit
structure RulesF (m:RulesM) (w:World) (base:Nat) : Prop where
 ws:FrS encW 6 w base m.Aw m.ws
 ss:FrS encSch 8 w base m.As m.ss
 tm:TarF m.tm w base
theorem RulesF.grown {m:RulesM} {w w' : World} {base:Nat} {row:Option Nat} (h:RulesF m w base) (hg:w.grownBy w' row) (hr : ∀ g,row = some g→g < base) : RulesF m w' base:=⟨h.ws.grown hg hr,h.ss.grown hg hr,h.tm.grown hg hr⟩
theorem RulesF.in_ {m:RulesM} {w:World} {base:Nat} (h:RulesF m w base) : m.In w:=⟨h.ws.sl,h.ss.sl,⟨h.tm.brs.sl,h.tm.rows.sl⟩⟩
theorem TarF.weaken {m:TarM} {w:World} {base base' : Nat} (h:TarF m w base) (hb:base'≤base) : TarF m w base':=⟨h.brs.weaken hb,h.rows.weaken hb⟩
theorem TarF.set {m:TarM} {w:World} {base:Nat} (h:TarF m w base) {g:Nat} (hg:g < base) (i:Nat) (u:Value) : TarF m (w.setCell ⟨g,i,none⟩ u) base:=⟨h.brs.set hg i u,h.rows.set hg i u⟩
theorem RulesF.set {m:RulesM} {w:World} {base:Nat} (h:RulesF m w base) {g:Nat} (hg:g < base) (i:Nat) (u:Value) : RulesF m (w.setCell ⟨g,i,none⟩ u) base:=⟨h.ws.set hg i u,h.ss.set hg i u,h.tm.set hg i u⟩
structure RulesG (m:RulesM) : Prop where
 ok:RulesOk m.t
 ws:GenW 4 m.ws
 ss:GenSc 3 m.ss
theorem names4_ : ∀ c ∈ codes4,nameB c = true:=by decide +kernel
theorem sorted4_ : codes4.Pairwise (fun a b=>Op.bytesLess a.toList b.toList = true):=by decide +kernel
theorem GenW.valid_ {ws:List WageT} (h:GenW 4 ws) : validB ws = true:=by
 have hp:(ws.map (·.code)).Pairwise (fun a b=>Op.bytesLess a.toList b.toList = true):=List.Pairwise.sublist (by simpa [codes4] using h.sub) sorted4_
 rw [List.pairwise_map] at hp
 refine validB_yes (by have:=h.len; omega) fun i hi=>?_
 have hx:=h.ok _ (List.getElem_mem hi)
 rw [okAt_eq ws i ws[i] true ?_]
 ·
  have h1:=names4_ _ hx.code
  have h2:=hx.lo
  have h3:=hx.hi
  refine decide_eq_true ⟨h1,.inr rfl,?_,?_,by omega,by omega⟩
  ·
   rcases hx.kind with h | h
   ·
    exact .inl h
   ·
    exact .inr h.1
  ·
   rintro ⟨h4,h5⟩
   rcases hx.kind with h | h
   ·
    omega
   ·
    rw [h.2] at h5; cases h5
 ·
  rcases Nat.eq_zero_or_pos i with h0 | h0
  ·
   exact .inl h0
  ·
   right
   refine ⟨ws[i - 1]'(by omega), List.getElem?_eq_getElem (by omega), ?_⟩
   rw [List.pairwise_iff_getElem] at hp
   exact (hp (i - 1) i (by omega) hi (by omega)).symm
structure FrB {α:Type} (enc:α→List Value) (k:Nat) (w:World) (lo hi : Nat) (A:Option Addr) (xs:List α) : Prop where
 sl:SliceOf enc k w hi A xs
 fr:∀ a,A = some a→lo≤a.block
 hh:hi≤w.heap.size
section
variable {α:Type} {enc:α→List Value} {k:Nat} {w w':World} {lo hi:Nat} {A:Option Addr} {xs:List α}
theorem FrB.grown {row:Option Nat} (h:FrB enc k w lo hi A xs) (hg:w.grownBy w' row) (hr : ∀ g,row = some g→g < lo ∨ hi≤g) : FrB enc k w' lo hi A xs:=⟨fun hne=>by
 obtain ⟨c,off,e,hb,hc⟩:=h.sl hne
 have hlo:=h.fr _ e
 have hh:=h.hh
 exact ⟨c,off,e,hb,fun i x hi' j v hj=>(World.cell?_of_block (hg.block c (by omega) (fun e'=>by have:=hr c e'.symm; simp only at hlo; omega))).trans (hc i x hi' j v hj)⟩,h.fr,Nat.le_trans h.hh hg.size⟩
theorem FrB.in_ (h:FrB enc k w lo hi A xs) : SliceOf enc k w w.heap.size A xs:=h.sl.more h.hh
theorem FrB.set (h:FrB enc k w lo hi A xs) {g:Nat} (hg:g < lo) (i:Nat) (u:Value) : FrB enc k (w.setCell ⟨g,i,none⟩ u) lo hi A xs:=h.grown (row:=some g) (only_setCell (p:=⟨g,i,none⟩) (only_refl _ _) (.inl rfl) u) (fun q e=>by injection e; omega)
theorem FrB.lower {lo' : Nat} (h:FrB enc k w lo hi A xs) (hl:lo'≤lo) : FrB enc k w lo' hi A xs:=⟨h.sl,fun a ha=>Nat.le_trans hl (h.fr a ha),h.hh⟩
theorem FrS.toB (h:FrS enc k w lo A xs) : FrB enc k w lo w.heap.size A xs:=⟨h.sl,h.fr,Nat.le_refl _⟩
end
theorem Own.set {α:Type} {enc:α→List Value} {k:Nat} {e:TypeId} {w:World} {base:Nat} {v:Value} {xs:List α} (h:Own enc k e w base v xs) {g:Nat} (hg:g < base) (i:Nat) (u:Value) : Own enc k e (w.setCell ⟨g,i,none⟩ u) base v xs :=
 h.setCell (p:=⟨g,i,none⟩) (fun q hq e=>by have:=(h.block_lt hq).1; simp only at e; omega) u
set_option maxRecDepth 100000 in
set_option maxHeartbeats 4000000 in
theorem rules_anyO (b M : Nat) (mth:Int) (h0:0≤mth) (h3:mth≤3) (w:World) (hM:M≤400000) (hd:DeckIn w b M) :
  Calls Tryz.prog 27 #[.pointer (some ⟨b,0,none⟩),.int .i64 mth] w fun e w'=>∃ m:RulesM,e = .returned (.agg #[.slice m.Aw m.ws.length m.cw,.slice m.As m.ss.length m.cs,.int .i64 m.tm.t.method,.slice m.tm.Ab m.tm.t.brs.length m.tm.cb,.int .i64 m.tm.t.allowance,.int .i64 m.tm.t.credit,.int .i64 m.tm.t.unit,.int .i64 m.tm.t.mode,.slice m.tm.Ar m.tm.t.rows.length m.tm.cr,.int .i64 m.count,.int .i64 m.sh.fixed,.int .i64 m.sh.dependent,.int .i64 m.sh.lower,.int .i64 m.sh.share,.int .i64 m.sh.top,.int .i64 m.recover])∧RulesG m∧MethIs mth m.tm∧(RulesF m w' (w.heap.size+1)∧∃ h,w.heap.size+1≤h∧FrB encW 6 w' (w.heap.size+1) h m.Aw m.ws∧Own encSch 8 123 w' h (.slice m.As m.ss.length m.cs) m.ss)∧DeckIn w' b (M+110)∧w.grownBy w' (some b):=by
 have hlt:=hd.lt
 go_enter Tryz.func27,Tryz.ntmps27
 go_wp2_with fail
 refine (wages_any b M _ (by omega) (hd.alloc _)).mono ?_
 rintro e w1 ⟨v1,ws,rfl,hws,how,hd1,hg1⟩
 obtain ⟨Aw,cw,rfl,hW1⟩:=how.fresh encW_len
 rw [World.size_alloc] at hW1
 have hB1:=hW1.toB
 have HWS:=Lib.hid hws
 clear hws how
 go_wp2_with fail
 refine (schemes_any b (M+20) _ (by omega) hd1).mono ?_
 rintro e w2 ⟨v2,ss,rfl,hss,hos,hd2,hg2⟩
 obtain ⟨As,cs,rfl,hS2⟩:=hos.fresh encSch_len
 have hz1:w.heap.size+1≤w1.heap.size:=by have:=hg1.size; rw [World.size_alloc] at this; omega
 have hS2':=hS2.weaken hz1
 have hO2:=hos
 have hB2:=hB1.grown hg2 (fun g e=>by injection e; omega)
 have HSS:=Lib.hid hss
 clear hss hos hS2
 have hW2:=hW1.grown hg2 (fun g e=>by injection e; omega)
 clear hW1
 go_wp2_with fail
 refine (tariff_any b (M+20+33) mth h0 h3 _ (by omega) hd2).mono ?_
 rintro e w3 ⟨tm,rfl,htok,hmi,hT3,hd3,hg3⟩
 have hz2:w.heap.size+1≤w2.heap.size:=by have:=hg2.size; omega
 have hT3':=hT3.weaken (base':=w.heap.size+1) (by omega)
 have hW3:=hW2.grown hg3 (fun g e=>by injection e; omega)
 have hS3:=hS2'.grown hg3 (fun g e=>by injection e; omega)
 have hO3:=hO2.kept hg3 (fun g e=>by injection e; omega)
 have hB3:=hB2.grown hg3 (fun g e=>by injection e; omega)
 have HTO:=Lib.hid htok
 have HMI:=Lib.hid hmi
 clear htok hmi hT3 hW2 hS2'
 go_wp2_with fail
 refine (pick_new b (M+20+33+40) w3 [12,12,4,1,53] _ _ _ rfl rfl (by omega) hd3 (by simp) (by simp)).mono ?_
 rintro e w4 ⟨r4,rfl,hm4,hd4,hg4⟩
 go_wp2_with fail
 refine (shield_any b (M+20+33+40+1) _ (by omega) hd4).mono ?_
 rintro e w5 ⟨sh,rfl,hsh,hd5,hg5⟩
 have HSH:=Lib.hid hsh
 clear hsh
 go_wp2_with fail
 refine (pick_new b (M+20+33+40+1+10) w5 [300000,0,1000000] _ _ _ rfl rfl (by omega) hd5 (by simp) (by simp)).mono ?_
 rintro e w6 ⟨r6,rfl,hm6,hd6,hg6⟩
 have hdr4:1≤r4∧r4≤53:=by simp at hm4; omega
 have hdr6:0≤r6∧r6≤1000000:=by simp at hm6; omega
 have hG36:=only_trans (only_trans hg4 hg5) hg6
 have hW6:=hW3.grown hG36 (fun g e=>by injection e; omega)
 have hS6:=hS3.grown hG36 (fun g e=>by injection e; omega)
 have hO6:=hO3.kept hG36 (fun g e=>by injection e; omega)
 have hB6:=hB3.grown hG36 (fun g e=>by injection e; omega)
 have hT6:=hT3'.grown hG36 (fun g e=>by injection e; omega)
 have hG6:w.grownBy w6 (some b):=only_trans (only_trans (only_trans (only_trans (only_alloc (only_refl _ _) _) hg1) hg2) hg3) hG36
 have hR6:=(((Blk.new w 45 #[.slice none 0 0,.slice none 0 0,.int .i64 0,.slice none 0 0,.int .i64 0,.int .i64 0,.int .i64 0,.int .i64 0,.slice none 0 0,.int .i64 0,.int .i64 0,.int .i64 0,.int .i64 0,.int .i64 0,.int .i64 0,.int .i64 0]).grown hg1 (by intro e; injection e; omega)).grown hg2 (by intro e; injection e; omega)).grown hg3 (by intro e; injection e; omega) |>.grown hG36 (by intro e; injection e; omega)
 clear hg1 hg2 hg3 hg4 hg5 hg6 hd1 hd2 hd3 hd4 hd5 hd hm4 hm6 hW3 hS3 hT3' hG36 hO2 hO3 hB1 hB2 hB3
 have y0:=hR6.cell 0
 have y1:=hR6.cell 1
 have y2:=hR6.cell 2
 have y3:=hR6.cell 3
 have y4:=hR6.cell 4
 have y5:=hR6.cell 5
 have y6:=hR6.cell 6
 have y7:=hR6.cell 7
 have y8:=hR6.cell 8
 have y9:=hR6.cell 9
 have y10:=hR6.cell 10
 have y11:=hR6.cell 11
 have y12:=hR6.cell 12
 have y13:=hR6.cell 13
 have y14:=hR6.cell 14
 have y15:=hR6.cell 15
 simp only [nqg,nqh,nqi] at y0 y1 y2 y3 y4 y5 y6 y7 y8 y9 y10 y11 y12 y13 y14 y15
 have fy0:=hR6.frozen 0
 have fy1:=hR6.frozen 1
 have fy2:=hR6.frozen 2
 have fy3:=hR6.frozen 3
 have fy4:=hR6.frozen 4
 have fy5:=hR6.frozen 5
 have fy6:=hR6.frozen 6
 have fy7:=hR6.frozen 7
 have fy8:=hR6.frozen 8
 have fy9:=hR6.frozen 9
 have fy10:=hR6.frozen 10
 have fy11:=hR6.frozen 11
 have fy12:=hR6.frozen 12
 have fy13:=hR6.frozen 13
 have fy14:=hR6.frozen 14
 have fy15:=hR6.frozen 15
 have l2:=hR6.lt
 have hfin:=hR6.fill [.slice Aw ws.length cw,.slice As ss.length cs,.int .i64 tm.t.method,.slice tm.Ab tm.t.brs.length tm.cb,.int .i64 tm.t.allowance,.int .i64 tm.t.credit,.int .i64 tm.t.unit,.int .i64 tm.t.mode,.slice tm.Ar tm.t.rows.length tm.cr,.int .i64 r4,.int .i64 sh.fixed,.int .i64 sh.dependent,.int .i64 sh.lower,.int .i64 sh.share,.int .i64 sh.top,.int .i64 r6] rfl
 simp only [putAll,Nat.zero_add,Nat.reduceAdd] at hfin
 have hdF:=(DeckIn.set (DeckIn.set (DeckIn.set (DeckIn.set (DeckIn.set (DeckIn.set (DeckIn.set (DeckIn.set (DeckIn.set (DeckIn.set (DeckIn.set (DeckIn.set (DeckIn.set (DeckIn.set (DeckIn.set (DeckIn.set hd6 (g:=w.heap.size) hlt 0 (.slice Aw ws.length cw)) (g:=w.heap.size) hlt 1 (.slice As ss.length cs)) (g:=w.heap.size) hlt 2 (.int .i64 tm.t.method)) (g:=w.heap.size) hlt 3 (.slice tm.Ab tm.t.brs.length tm.cb)) (g:=w.heap.size) hlt 4 (.int .i64 tm.t.allowance)) (g:=w.heap.size) hlt 5 (.int .i64 tm.t.credit)) (g:=w.heap.size) hlt 6 (.int .i64 tm.t.unit)) (g:=w.heap.size) hlt 7 (.int .i64 tm.t.mode)) (g:=w.heap.size) hlt 8 (.slice tm.Ar tm.t.rows.length tm.cr)) (g:=w.heap.size) hlt 9 (.int .i64 r4)) (g:=w.heap.size) hlt 10 (.int .i64 sh.fixed)) (g:=w.heap.size) hlt 11 (.int .i64 sh.dependent)) (g:=w.heap.size) hlt 12 (.int .i64 sh.lower)) (g:=w.heap.size) hlt 13 (.int .i64 sh.share)) (g:=w.heap.size) hlt 14 (.int .i64 sh.top)) (g:=w.heap.size) hlt 15 (.int .i64 r6))
 have hGF:=(only_setCell (p:=⟨w.heap.size,15,none⟩) (only_setCell (p:=⟨w.heap.size,14,none⟩) (only_setCell (p:=⟨w.heap.size,13,none⟩) (only_setCell (p:=⟨w.heap.size,12,none⟩) (only_setCell (p:=⟨w.heap.size,11,none⟩) (only_setCell (p:=⟨w.heap.size,10,none⟩) (only_setCell (p:=⟨w.heap.size,9,none⟩) (only_setCell (p:=⟨w.heap.size,8,none⟩) (only_setCell (p:=⟨w.heap.size,7,none⟩) (only_setCell (p:=⟨w.heap.size,6,none⟩) (only_setCell (p:=⟨w.heap.size,5,none⟩) (only_setCell (p:=⟨w.heap.size,4,none⟩) (only_setCell (p:=⟨w.heap.size,3,none⟩) (only_setCell (p:=⟨w.heap.size,2,none⟩) (only_setCell (p:=⟨w.heap.size,1,none⟩) (only_setCell (p:=⟨w.heap.size,0,none⟩) hG6 (.inr (Nat.le_refl _)) (.slice Aw ws.length cw)) (.inr (Nat.le_refl _)) (.slice As ss.length cs)) (.inr (Nat.le_refl _)) (.int .i64 tm.t.method)) (.inr (Nat.le_refl _)) (.slice tm.Ab tm.t.brs.length tm.cb)) (.inr (Nat.le_refl _)) (.int .i64 tm.t.allowance)) (.inr (Nat.le_refl _)) (.int .i64 tm.t.credit)) (.inr (Nat.le_refl _)) (.int .i64 tm.t.unit)) (.inr (Nat.le_refl _)) (.int .i64 tm.t.mode)) (.inr (Nat.le_refl _)) (.slice tm.Ar tm.t.rows.length tm.cr)) (.inr (Nat.le_refl _)) (.int .i64 r4)) (.inr (Nat.le_refl _)) (.int .i64 sh.fixed)) (.inr (Nat.le_refl _)) (.int .i64 sh.dependent)) (.inr (Nat.le_refl _)) (.int .i64 sh.lower)) (.inr (Nat.le_refl _)) (.int .i64 sh.share)) (.inr (Nat.le_refl _)) (.int .i64 sh.top)) (.inr (Nat.le_refl _)) (.int .i64 r6))
 have hWF:=((((((((((((((((hW6.set (g:=w.heap.size) (by omega) 0 (.slice Aw ws.length cw)).set (g:=w.heap.size) (by omega) 1 (.slice As ss.length cs)).set (g:=w.heap.size) (by omega) 2 (.int .i64 tm.t.method)).set (g:=w.heap.size) (by omega) 3 (.slice tm.Ab tm.t.brs.length tm.cb)).set (g:=w.heap.size) (by omega) 4 (.int .i64 tm.t.allowance)).set (g:=w.heap.size) (by omega) 5 (.int .i64 tm.t.credit)).set (g:=w.heap.size) (by omega) 6 (.int .i64 tm.t.unit)).set (g:=w.heap.size) (by omega) 7 (.int .i64 tm.t.mode)).set (g:=w.heap.size) (by omega) 8 (.slice tm.Ar tm.t.rows.length tm.cr)).set (g:=w.heap.size) (by omega) 9 (.int .i64 r4)).set (g:=w.heap.size) (by omega) 10 (.int .i64 sh.fixed)).set (g:=w.heap.size) (by omega) 11 (.int .i64 sh.dependent)).set (g:=w.heap.size) (by omega) 12 (.int .i64 sh.lower)).set (g:=w.heap.size) (by omega) 13 (.int .i64 sh.share)).set (g:=w.heap.size) (by omega) 14 (.int .i64 sh.top)).set (g:=w.heap.size) (by omega) 15 (.int .i64 r6))
 have hSF:=((((((((((((((((hS6.set (g:=w.heap.size) (by omega) 0 (.slice Aw ws.length cw)).set (g:=w.heap.size) (by omega) 1 (.slice As ss.length cs)).set (g:=w.heap.size) (by omega) 2 (.int .i64 tm.t.method)).set (g:=w.heap.size) (by omega) 3 (.slice tm.Ab tm.t.brs.length tm.cb)).set (g:=w.heap.size) (by omega) 4 (.int .i64 tm.t.allowance)).set (g:=w.heap.size) (by omega) 5 (.int .i64 tm.t.credit)).set (g:=w.heap.size) (by omega) 6 (.int .i64 tm.t.unit)).set (g:=w.heap.size) (by omega) 7 (.int .i64 tm.t.mode)).set (g:=w.heap.size) (by omega) 8 (.slice tm.Ar tm.t.rows.length tm.cr)).set (g:=w.heap.size) (by omega) 9 (.int .i64 r4)).set (g:=w.heap.size) (by omega) 10 (.int .i64 sh.fixed)).set (g:=w.heap.size) (by omega) 11 (.int .i64 sh.dependent)).set (g:=w.heap.size) (by omega) 12 (.int .i64 sh.lower)).set (g:=w.heap.size) (by omega) 13 (.int .i64 sh.share)).set (g:=w.heap.size) (by omega) 14 (.int .i64 sh.top)).set (g:=w.heap.size) (by omega) 15 (.int .i64 r6))
 have hTF:=((((((((((((((((hT6.set (g:=w.heap.size) (by omega) 0 (.slice Aw ws.length cw)).set (g:=w.heap.size) (by omega) 1 (.slice As ss.length cs)).set (g:=w.heap.size) (by omega) 2 (.int .i64 tm.t.method)).set (g:=w.heap.size) (by omega) 3 (.slice tm.Ab tm.t.brs.length tm.cb)).set (g:=w.heap.size) (by omega) 4 (.int .i64 tm.t.allowance)).set (g:=w.heap.size) (by omega) 5 (.int .i64 tm.t.credit)).set (g:=w.heap.size) (by omega) 6 (.int .i64 tm.t.unit)).set (g:=w.heap.size) (by omega) 7 (.int .i64 tm.t.mode)).set (g:=w.heap.size) (by omega) 8 (.slice tm.Ar tm.t.rows.length tm.cr)).set (g:=w.heap.size) (by omega) 9 (.int .i64 r4)).set (g:=w.heap.size) (by omega) 10 (.int .i64 sh.fixed)).set (g:=w.heap.size) (by omega) 11 (.int .i64 sh.dependent)).set (g:=w.heap.size) (by omega) 12 (.int .i64 sh.lower)).set (g:=w.heap.size) (by omega) 13 (.int .i64 sh.share)).set (g:=w.heap.size) (by omega) 14 (.int .i64 sh.top)).set (g:=w.heap.size) (by omega) 15 (.int .i64 r6))
 have hOF:=((((((((((((((((hO6.set (g:=w.heap.size) (by omega) 0 (.slice Aw ws.length cw)).set (g:=w.heap.size) (by omega) 1 (.slice As ss.length cs)).set (g:=w.heap.size) (by omega) 2 (.int .i64 tm.t.method)).set (g:=w.heap.size) (by omega) 3 (.slice tm.Ab tm.t.brs.length tm.cb)).set (g:=w.heap.size) (by omega) 4 (.int .i64 tm.t.allowance)).set (g:=w.heap.size) (by omega) 5 (.int .i64 tm.t.credit)).set (g:=w.heap.size) (by omega) 6 (.int .i64 tm.t.unit)).set (g:=w.heap.size) (by omega) 7 (.int .i64 tm.t.mode)).set (g:=w.heap.size) (by omega) 8 (.slice tm.Ar tm.t.rows.length tm.cr)).set (g:=w.heap.size) (by omega) 9 (.int .i64 r4)).set (g:=w.heap.size) (by omega) 10 (.int .i64 sh.fixed)).set (g:=w.heap.size) (by omega) 11 (.int .i64 sh.dependent)).set (g:=w.heap.size) (by omega) 12 (.int .i64 sh.lower)).set (g:=w.heap.size) (by omega) 13 (.int .i64 sh.share)).set (g:=w.heap.size) (by omega) 14 (.int .i64 sh.top)).set (g:=w.heap.size) (by omega) 15 (.int .i64 r6))
 have hBF:=((((((((((((((((hB6.set (g:=w.heap.size) (by omega) 0 (.slice Aw ws.length cw)).set (g:=w.heap.size) (by omega) 1 (.slice As ss.length cs)).set (g:=w.heap.size) (by omega) 2 (.int .i64 tm.t.method)).set (g:=w.heap.size) (by omega) 3 (.slice tm.Ab tm.t.brs.length tm.cb)).set (g:=w.heap.size) (by omega) 4 (.int .i64 tm.t.allowance)).set (g:=w.heap.size) (by omega) 5 (.int .i64 tm.t.credit)).set (g:=w.heap.size) (by omega) 6 (.int .i64 tm.t.unit)).set (g:=w.heap.size) (by omega) 7 (.int .i64 tm.t.mode)).set (g:=w.heap.size) (by omega) 8 (.slice tm.Ar tm.t.rows.length tm.cr)).set (g:=w.heap.size) (by omega) 9 (.int .i64 r4)).set (g:=w.heap.size) (by omega) 10 (.int .i64 sh.fixed)).set (g:=w.heap.size) (by omega) 11 (.int .i64 sh.dependent)).set (g:=w.heap.size) (by omega) 12 (.int .i64 sh.lower)).set (g:=w.heap.size) (by omega) 13 (.int .i64 sh.share)).set (g:=w.heap.size) (by omega) 14 (.int .i64 sh.top)).set (g:=w.heap.size) (by omega) 15 (.int .i64 r6))
 clear hR6 hd6 hG6 hW6 hS6 hT6 hO6 hB6
 go_wp2_with fail
 generalize World.setCell _ ⟨w.heap.size,15,none⟩ _ = WW at hfin hdF hGF hWF hSF hTF hOF hBF ⊢
 have q0:=hfin.cell 0
 have q1:=hfin.cell 1
 have q2:=hfin.cell 2
 have q3:=hfin.cell 3
 have q4:=hfin.cell 4
 have q5:=hfin.cell 5
 have q6:=hfin.cell 6
 have q7:=hfin.cell 7
 have q8:=hfin.cell 8
 have q9:=hfin.cell 9
 have q10:=hfin.cell 10
 have q11:=hfin.cell 11
 have q12:=hfin.cell 12
 have q13:=hfin.cell 13
 have q14:=hfin.cell 14
 have q15:=hfin.cell 15
 simp only [nqg,nqh,nqi] at q0 q1 q2 q3 q4 q5 q6 q7 q8 q9 q10 q11 q12 q13 q14 q15
 refine bodyPost_ret (v:=.agg #[.slice Aw ws.length cw,.slice As ss.length cs,.int .i64 tm.t.method,.slice tm.Ab tm.t.brs.length tm.cb,.int .i64 tm.t.allowance,.int .i64 tm.t.credit,.int .i64 tm.t.unit,.int .i64 tm.t.mode,.slice tm.Ar tm.t.rows.length tm.cr,.int .i64 r4,.int .i64 sh.fixed,.int .i64 sh.dependent,.int .i64 sh.lower,.int .i64 sh.share,.int .i64 sh.top,.int .i64 r6]) ?_ rfl (⟨⟨Aw,cw,ws,As,cs,ss,tm,r4,sh,r6⟩,rfl,⟨⟨HWS.out.valid_,by have:=HSS.out.len; show ss.length≤12; omega,HSS.out.schs.1,HSS.out.schs.2,HTO.out,hdr4.1,hdr4.2,HSH.out,hdr6.1,hdr6.2⟩,HWS.out,HSS.out⟩,HMI.out,⟨⟨hWF,hSF,hTF⟩,w1.heap.size,hz1,hBF,hOF⟩,hdF.mono (by omega),hGF⟩)
 simp [results,Tryz.results27,go_sem,q0,q1,q2,q3,q4,q5,q6,q7,q8,q9,q10,q11,q12,q13,q14,q15]
end Go.Proofs.YtlhkojcmcmkmaaaGreat
namespace Go.Proofs.YtlhkojcmcmkmaaaGreat
open Go.RowKit
structure YearF (m:YearM) (w:World) (base:Nat) : Prop where
 ins:FrS encI 1 w base m.Ai m.ins
 taken:FrS encE 2 w base m.At m.taken
theorem YearF.grown {m:YearM} {w w' : World} {base:Nat} {row:Option Nat} (h:YearF m w base) (hg:w.grownBy w' row) (hr : ∀ g,row = some g→g < base) : YearF m w' base:=⟨h.ins.grown hg hr,h.taken.grown hg hr⟩
theorem YearF.set {m:YearM} {w:World} {base:Nat} (h:YearF m w base) {g:Nat} (hg:g < base) (i:Nat) (u:Value) : YearF m (w.setCell ⟨g,i,none⟩ u) base:=⟨h.ins.set hg i u,h.taken.set hg i u⟩
structure YearG (k:Nat) (m:YearM) : Prop where
 per:m.periods = k
 len:m.ins.length = k
 ins:∀ x ∈ m.ins,0≤x∧x≤1000000
 inc:0≤m.income∧m.income≤600000 * k
 wh:0≤m.withheld∧m.withheld≤60000 * k
 taken:GenR 4 m.taken
def YrIn (w:World) (b g k : Nat) (Ai:Option Addr) (ci:Nat) (ins:List Int) (At:Option Addr) (ct:Nat) (taken:List Elem) (M:Nat) (inc wh : Int) (wx:World) : Prop :=
 Blk wx g 53 #[.int .i64 k,.int .i64 inc,.int .i64 wh,.slice Ai ins.length ci,.slice At taken.length ct]∧Blk wx w.heap.size 53 #[.int .i64 0,.int .i64 0,.int .i64 0,.slice none 0 0,.slice none 0 0]∧DeckIn wx b M∧w.grownBy wx (some b) ∧
 FrS encI 1 wx (w.heap.size+1) Ai ins∧FrS encE 2 wx (w.heap.size+1) At taken∧w.heap.size < g∧b < w.heap.size∧(∀ a,Ai = some a→a.block ≠ g)∧∀ a,At = some a→a.block ≠ g
section
variable {w wx wy:World} {b g k M M':Nat} {Ai At:Option Addr} {ci ct:Nat} {ins:List Int} {taken:List Elem} {inc wh:Int}
theorem YrIn.adv (h:YrIn w b g k Ai ci ins At ct taken M inc wh wx) (hb:Below wx.heap.size wx wy) : YrIn w b g k Ai ci ins At ct taken M inc wh wy:=by
 obtain ⟨h1,h2,h3,h4,h5,h6,h7⟩:=h
 exact ⟨h1.adv hb,h2.adv hb,h3.bel hb,only_adv h4 hb,h5.adv hb,h6.adv hb,h7⟩
theorem YrIn.deck (h:YrIn w b g k Ai ci ins At ct taken M inc wh wx) (hd:DeckIn wy b M') (hg:wx.grownBy wy (some b)) : YrIn w b g k Ai ci ins At ct taken M' inc wh wy:=by
 obtain ⟨h1,h2,h3,h4,h5,h6,h7,h8,h9⟩:=h
 exact ⟨h1.grown hg (by intro e; injection e; omega),h2.grown hg (by intro e; injection e; omega),hd,only_trans h4 hg,h5.grown hg (fun q e=>by injection e; omega),h6.grown hg (fun q e=>by injection e; omega),h7,h8,h9⟩
theorem YrIn.put (h:YrIn w b g k Ai ci ins At ct taken M inc wh wx) (i:Nat) (u:Value) : Blk (wx.setCell ⟨g,i,none⟩ u) w.heap.size 53 #[.int .i64 0,.int .i64 0,.int .i64 0,.slice none 0 0,.slice none 0 0]∧DeckIn (wx.setCell ⟨g,i,none⟩ u) b M∧w.grownBy (wx.setCell ⟨g,i,none⟩ u) (some b) ∧
  FrS encI 1 (wx.setCell ⟨g,i,none⟩ u) (w.heap.size+1) Ai ins∧FrS encE 2 (wx.setCell ⟨g,i,none⟩ u) (w.heap.size+1) At taken:=by
 obtain ⟨h1,h2,h3,h4,h5,h6,h7,h8,h9,h10⟩:=h
 have hgo:World.grownBy wx (wx.setCell ⟨g,i,none⟩ u) (some g):=only_setCell (p:=⟨g,i,none⟩) (only_refl _ _) (.inl rfl) _
 exact ⟨h2.far (p:=⟨g,i,none⟩) (by show w.heap.size ≠ g; omega) u,h3.set (by omega) i u,only_setCell (p:=⟨g,i,none⟩) h4 (.inr (by show w.heap.size≤g; omega)) u,
  ⟨h5.sl.advN hgo (fun a ha e=>h9 a ha (by injection e with e; exact e.symm)),h5.fr⟩,⟨h6.sl.advN hgo (fun a ha e=>h10 a ha (by injection e with e; exact e.symm)),h6.fr⟩⟩
theorem YrIn.put1 (h:YrIn w b g k Ai ci ins At ct taken M inc wh wx) (x:Int) : YrIn w b g k Ai ci ins At ct taken M x wh (wx.setCell ⟨g,1,none⟩ (.int .i64 x)):=by
 obtain ⟨a,c,d,e,f⟩:=h.put 1 (.int .i64 x)
 exact ⟨h.1.set_ 1 (.int .i64 x),a,c,d,e,f,h.2.2.2.2.2.2⟩
theorem YrIn.put2 (h:YrIn w b g k Ai ci ins At ct taken M inc wh wx) (x:Int) : YrIn w b g k Ai ci ins At ct taken M inc x (wx.setCell ⟨g,2,none⟩ (.int .i64 x)):=by
 obtain ⟨a,c,d,e,f⟩:=h.put 2 (.int .i64 x)
 exact ⟨h.1.set_ 2 (.int .i64 x),a,c,d,e,f,h.2.2.2.2.2.2⟩
end
set_option maxRecDepth 100000 in
set_option maxHeartbeats 4000000 in
theorem year_any (b M k : Nat) (w:World) (hM:M≤300000) (hk:k≤4) (hd:DeckIn w b M) :
  Calls Tryz.prog 33 #[.pointer (some ⟨b,0,none⟩),.int .i64 k] w fun e w'=>∃ m:YearM,e = .returned (.agg #[.int .i64 m.periods,.int .i64 m.income,.int .i64 m.withheld,.slice m.Ai m.ins.length m.ci,.slice m.At m.taken.length m.ct])∧YearG k m∧YearF m w' (w.heap.size+1)∧DeckIn w' b (M+60)∧w.grownBy w' (some b):=by
 have hlt:=hd.lt
 go_enter Tryz.func33,Tryz.ntmps33
 go_wp2_with fail
 refine (bases_any b M k _ (by omega) (by omega) (hd.alloc _)).mono ?_
 rintro e w1 ⟨v1,ins,rfl,hil,hib,hoi,hd1,hg1⟩
 have HIL:=Lib.hid hil
 have HIB:=Lib.hid hib
 clear hil hib
 obtain ⟨Ai,ci,rfl,hI1⟩:=hoi.fresh encI_len
 rw [World.size_alloc] at hI1
 have hgI1:=hoi.blk_lt
 clear hoi
 go_wp2_with fail
 refine (record_any b (M+5 * k) _ (by omega) hd1).mono ?_
 rintro e w2 ⟨v2,taken,rfl,htk,hot,hd2,hg2⟩
 obtain ⟨At,ct,rfl,hT2⟩:=hot.fresh encE_len
 have hgT2:=hot.blk_lt
 have HTK:=Lib.hid htk
 have hz1:w.heap.size+1≤w1.heap.size:=by have:=hg1.size; rw [World.size_alloc] at this; omega
 have hT2':=hT2.weaken hz1
 have hI2:=hI1.grown hg2 (fun g e=>by injection e; omega)
 have hR2:=((Blk.new w 53 #[.int .i64 0,.int .i64 0,.int .i64 0,.slice none 0 0,.slice none 0 0]).grown hg1 (by intro e; injection e; omega)).grown hg2 (by intro e; injection e; omega)
 have hG2:w.grownBy w2 (some b):=only_trans (only_trans (only_alloc (only_refl _ _) _) hg1) hg2
 have hlr:=hR2.lt
 have hs2:=hg2.size
 have hY0:YrIn w b w2.heap.size k Ai ci ins At ct taken (M+5 * k+16) 0 0 (w2.alloc (.cells #[.int .i64 k,.int .i64 0,.int .i64 0,.slice Ai ins.length ci,.slice At taken.length ct] 53)) :=
  ⟨Blk.new _ _ _,hR2.alloc _,hd2.alloc _,only_alloc hG2 _,hI2.alloc _,hT2'.alloc _,hlr,hlt,fun a ha=>by have:=hgI1 a ha; omega,fun a ha=>by have:=hgT2 a ha; omega⟩
 clear htk hot hT2 hI1 hT2' hI2 hR2 hG2 hg1 hg2 hd1 hd2 hd hgI1 hgT2
 go_wp2_with fail
 generalize w2.alloc (.cells #[.int .i64 k,.int .i64 0,.int .i64 0,.slice Ai ins.length ci,.slice At taken.length ct] 53) = w3 at *
 generalize w2.heap.size = g at *
 go_loopw [6] (fun i wr=>∃ (n:Nat) (inc wh:Int),n≤k∧i = .int .i64 n∧(0≤inc∧inc≤600000 * n)∧(0≤wh∧wh≤60000 * n)∧YrIn w b g k Ai ci ins At ct taken (M+5 * k+16+3 * n) inc wh wr) (fun i _=>k - (intOf i).toNat)
 case atStart=>exact ⟨0,0,0,by omega,rfl,by omega,by omega,hY0⟩
 case round =>
  obtain ⟨n,inc,wh,hn,rfl,hinc,hwh,hY⟩:=hrel
  clear hY0
  have hY0:=hY
  clear hY
  have hinc9:inc≤3000000:=by omega
  have hwh9:wh≤3000000:=by omega
  by_cases hlt2:n < k
  ·
   go_upto_region 5 with fail
   generalize hN:M+5 * k+16+3 * n = N at *
   go_cut [] from 19 to 24 (fun wx=>∃ r:Int,0≤r∧r < 600000∧YrIn w b g k Ai ci ins At ct taken (N+2) (inc+r) wh wx)
   case first =>
    as_aux_lemma =>
     refine M3.wp_region_sel (C:=BlkM g 53 (fun m=>#[.int .i64 k,m,.int .i64 wh,.slice Ai ins.length ci,.slice At taken.length ct])) (BlkM.stable _ _ _) (⟨_,hY0.1⟩) (aE:=?aE1) [0,2] 5 (by kernel_rfl) (by kernel_rfl) rfl (by kernel_rfl) (by kernel_rfl) (by rfl) ?H1 ?M1
     case H1 =>
      intro F hF inst
      simp only [M3.opsAt,List.getElem?_toArray,List.getElem?_cons_zero,List.getElem?_cons_succ]
      skip
      repeat (first | go_big_quiet_step (fail))
      refine wpQuiet_nil ?_
      rfl
     case M1 =>
      intro Q0 hQ0
      refine M3.mix_step [1,3] (by kernel_rfl) (by simp) ?_
      intro w1 hC1 hb1 i hi
      simp only [nqj,nqk,or_false] at hi
      have hY1:=hY0.adv hb1
      clear hb1 hY0
      rcases hi with rfl | rfl
      ·
       have z:=hY1.1.cell 1
       simp only [nqg,nqh,nqi] at z
       refine M3.mix_val (.int .i64 inc) w1 rfl rfl (by go_simp) ⟨⟨_,hY1.1⟩,?_⟩
       simp only [Act.put,nqa,nqb,nqc,nqd,nqe,nqf]
       clear hC1
       clear z
       refine M3.mix_step [3] (by kernel_rfl) (by simp) ?_
       intro w2 hC2 hb2 i hi
       simp only [nqj,nqk,or_false] at hi
       subst hi
       have hY2:=hY1.adv hb2
       clear hb2 hY1
       refine M3.mix_call 41 #[.pointer (some ⟨b,0,none⟩)] rfl rfl (by go_simp) ?_
       refine (small_any b (N) w2 (by omega) hY2.2.2.1).mono ?_
       rintro e w3 ⟨r,rfl,har,hbr,hd,hg⟩
       have hY3:=hY2.deck hd hg
       refine ⟨_,rfl,⟨_,hY3.1⟩,?_⟩
       simp only [Act.put,nqa,nqb,nqc,nqd,nqe,nqf]
       clear hd hg hC2 hY2
       refine M3.mix_step [4] (by kernel_rfl) (by simp) ?_
       intro w4 hC4 hb4 i hi
       simp only [nqj,nqk,or_false] at hi
       subst hi
       have hY4:=hY3.adv hb4
       clear hb4 hY3
       refine M3.mix_val (.int .i64 (inc+r)) w4 rfl rfl (by have e:=wrap_in (n:=inc+r) (by omega) (by omega); go_simp) ⟨⟨_,hY4.1⟩,?_⟩
       simp only [Act.put,nqa,nqb,nqc,nqd,nqe,nqf]
       clear hC4
       refine M3.mix_step [5] (by kernel_rfl) (by simp) ?_
       intro w5 hC5 hb5 i hi
       simp only [nqj,nqk,or_false] at hi
       subst hi
       have hY5:=hY4.adv hb5
       clear hb5 hY4
       refine M3.mix_val (.pointer (some ⟨g,1,none⟩)) w5 rfl rfl (by go_simp) ⟨⟨_,hY5.1⟩,?_⟩
       simp only [Act.put,nqa,nqb,nqc,nqd,nqe,nqf]
       clear hC5
       refine M3.mix_step [6] (by kernel_rfl) (by simp) ?_
       intro w6 hC6 hb6 i hi
       simp only [nqj,nqk,or_false] at hi
       subst hi
       have hY6:=hY5.adv hb6
       clear hb6 hY5
       have z:=hY6.1.cell 1
       have fz:=hY6.1.frozen 1
       have lg:=hY6.1.lt
       simp only [nqg,nqh,nqi] at z
       have hY7:=hY6.put1 (inc+r)
       refine M3.mix_skip (w6.setCell ⟨g,1,none⟩ (.int .i64 (inc+r))) rfl rfl (by go_simp) ⟨⟨_,hY7.1⟩,?_⟩
       simp only [Act.put,nqa,nqb,nqc]
       clear z fz lg hC6 hY6
       generalize w6.setCell ⟨g,1,none⟩ (.int .i64 (inc+r)) = w7 at *
       refine M3.mix_end (by kernel_rfl) ?_
       intro w8 hC8 hb8
       refine hQ0 _ _ ?_
       have hY8:=hY7.adv hb8
       clear hb8 hC8 hQ0 hY7
       go_wp2_with fail
       go_meet
       exact ⟨r,har,hbr,hY8⟩
      ·
       refine M3.mix_call 41 #[.pointer (some ⟨b,0,none⟩)] rfl rfl (by go_simp) ?_
       refine (small_any b (N) w1 (by omega) hY1.2.2.1).mono ?_
       rintro e w2 ⟨r,rfl,har,hbr,hd,hg⟩
       have hY2:=hY1.deck hd hg
       refine ⟨_,rfl,⟨_,hY2.1⟩,?_⟩
       simp only [Act.put,nqa,nqb,nqc,nqd,nqe,nqf]
       clear hd hg hC1 hY1
       refine M3.mix_step [1] (by kernel_rfl) (by simp) ?_
       intro w3 hC3 hb3 i hi
       simp only [nqj,nqk,or_false] at hi
       subst hi
       have hY3:=hY2.adv hb3
       clear hb3 hY2
       have z:=hY3.1.cell 1
       simp only [nqg,nqh,nqi] at z
       refine M3.mix_val (.int .i64 inc) w3 rfl rfl (by go_simp) ⟨⟨_,hY3.1⟩,?_⟩
       simp only [Act.put,nqa,nqb,nqc,nqd,nqe,nqf]
       clear hC3
       clear z
       refine M3.mix_step [4] (by kernel_rfl) (by simp) ?_
       intro w4 hC4 hb4 i hi
       simp only [nqj,nqk,or_false] at hi
       subst hi
       have hY4:=hY3.adv hb4
       clear hb4 hY3
       refine M3.mix_val (.int .i64 (inc+r)) w4 rfl rfl (by have e:=wrap_in (n:=inc+r) (by omega) (by omega); go_simp) ⟨⟨_,hY4.1⟩,?_⟩
       simp only [Act.put,nqa,nqb,nqc,nqd,nqe,nqf]
       clear hC4
       refine M3.mix_step [5] (by kernel_rfl) (by simp) ?_
       intro w5 hC5 hb5 i hi
       simp only [nqj,nqk,or_false] at hi
       subst hi
       have hY5:=hY4.adv hb5
       clear hb5 hY4
       refine M3.mix_val (.pointer (some ⟨g,1,none⟩)) w5 rfl rfl (by go_simp) ⟨⟨_,hY5.1⟩,?_⟩
       simp only [Act.put,nqa,nqb,nqc,nqd,nqe,nqf]
       clear hC5
       refine M3.mix_step [6] (by kernel_rfl) (by simp) ?_
       intro w6 hC6 hb6 i hi
       simp only [nqj,nqk,or_false] at hi
       subst hi
       have hY6:=hY5.adv hb6
       clear hb6 hY5
       have z:=hY6.1.cell 1
       have fz:=hY6.1.frozen 1
       have lg:=hY6.1.lt
       simp only [nqg,nqh,nqi] at z
       have hY7:=hY6.put1 (inc+r)
       refine M3.mix_skip (w6.setCell ⟨g,1,none⟩ (.int .i64 (inc+r))) rfl rfl (by go_simp) ⟨⟨_,hY7.1⟩,?_⟩
       simp only [Act.put,nqa,nqb,nqc]
       clear z fz lg hC6 hY6
       generalize w6.setCell ⟨g,1,none⟩ (.int .i64 (inc+r)) = w7 at *
       refine M3.mix_end (by kernel_rfl) ?_
       intro w8 hC8 hb8
       refine hQ0 _ _ ?_
       have hY8:=hY7.adv hb8
       clear hb8 hC8 hQ0 hY7
       go_wp2_with fail
       go_meet
       exact ⟨r,har,hbr,hY8⟩
   case rest =>
    obtain ⟨r1,hr1,hr1',hY1⟩:=hcut
    clear hY0
    go_upto_region 6 with fail
    have hY0:=hY1
    clear hY1
    refine M3.wp_region_sel (C:=BlkM g 53 (fun m=>#[.int .i64 k,.int .i64 (inc+r1),m,.slice Ai ins.length ci,.slice At taken.length ct])) (BlkM.stable _ _ _) (⟨_,hY0.1⟩) (aE:=?aE2) [0,2] 5 (by kernel_rfl) (by kernel_rfl) rfl (by kernel_rfl) (by kernel_rfl) (by rfl) ?H2 ?M2
    case H2 =>
     intro F hF inst
     simp only [M3.opsAt,List.getElem?_toArray,List.getElem?_cons_zero,List.getElem?_cons_succ]
     skip
     repeat (first | go_big_quiet_step (fail))
     refine wpQuiet_nil ?_
     rfl
    case M2 =>
     intro Q0 hQ0
     refine M3.mix_step [1,3] (by kernel_rfl) (by simp) ?_
     intro w1 hC1 hb1 i hi
     simp only [nqj,nqk,or_false] at hi
     have hY1:=hY0.adv hb1
     clear hb1 hY0
     rcases hi with rfl | rfl
     ·
      have z:=hY1.1.cell 2
      simp only [nqg,nqh,nqi] at z
      refine M3.mix_val (.int .i64 wh) w1 rfl rfl (by go_simp) ⟨⟨_,hY1.1⟩,?_⟩
      simp only [Act.put,nqa,nqb,nqc,nqd,nqe,nqf]
      clear hC1
      clear z
      refine M3.mix_step [3] (by kernel_rfl) (by simp) ?_
      intro w2 hC2 hb2 i hi
      simp only [nqj,nqk,or_false] at hi
      subst hi
      have hY2:=hY1.adv hb2
      clear hb2 hY1
      refine M3.mix_call 34 #[.pointer (some ⟨b,0,none⟩),.int .i64 60000] rfl rfl (by go_simp) ?_
      refine (next_any b (N+2) 60000 w2 (by omega) (by omega) (by omega) hY2.2.2.1).mono ?_
      rintro e w3 ⟨r,rfl,har,hbr,hd,hg⟩
      have hY3:=hY2.deck hd hg
      refine ⟨_,rfl,⟨_,hY3.1⟩,?_⟩
      simp only [Act.put,nqa,nqb,nqc,nqd,nqe,nqf]
      clear hd hg hC2 hY2
      refine M3.mix_step [4] (by kernel_rfl) (by simp) ?_
      intro w4 hC4 hb4 i hi
      simp only [nqj,nqk,or_false] at hi
      subst hi
      have hY4:=hY3.adv hb4
      clear hb4 hY3
      refine M3.mix_val (.int .i64 (wh+r)) w4 rfl rfl (by have e:=wrap_in (n:=wh+r) (by omega) (by omega); go_simp) ⟨⟨_,hY4.1⟩,?_⟩
      simp only [Act.put,nqa,nqb,nqc,nqd,nqe,nqf]
      clear hC4
      refine M3.mix_step [5] (by kernel_rfl) (by simp) ?_
      intro w5 hC5 hb5 i hi
      simp only [nqj,nqk,or_false] at hi
      subst hi
      have hY5:=hY4.adv hb5
      clear hb5 hY4
      refine M3.mix_val (.pointer (some ⟨g,2,none⟩)) w5 rfl rfl (by go_simp) ⟨⟨_,hY5.1⟩,?_⟩
      simp only [Act.put,nqa,nqb,nqc,nqd,nqe,nqf]
      clear hC5
      refine M3.mix_step [6] (by kernel_rfl) (by simp) ?_
      intro w6 hC6 hb6 i hi
      simp only [nqj,nqk,or_false] at hi
      subst hi
      have hY6:=hY5.adv hb6
      clear hb6 hY5
      have z:=hY6.1.cell 2
      have fz:=hY6.1.frozen 2
      have lg:=hY6.1.lt
      simp only [nqg,nqh,nqi] at z
      have hY7:=hY6.put2 (wh+r)
      refine M3.mix_skip (w6.setCell ⟨g,2,none⟩ (.int .i64 (wh+r))) rfl rfl (by go_simp) ⟨⟨_,hY7.1⟩,?_⟩
      simp only [Act.put,nqa,nqb,nqc]
      clear z fz lg hC6 hY6
      generalize w6.setCell ⟨g,2,none⟩ (.int .i64 (wh+r)) = w7 at *
      refine M3.mix_end (by kernel_rfl) ?_
      intro w8 hC8 hb8
      refine hQ0 _ _ ?_
      have hY8:=hY7.adv hb8
      clear hb8 hC8 hQ0 hY7
      go_wp2_with fail
      go_roundw
      case rel=>exact ⟨n+1,inc+r1,wh+r,by omega,by go_num,by omega,by omega,by rw [show M+5 * k+16+3 * (n+1) = N+2+1 by omega]; exact hY8⟩
      case measure=>simp [intOf]; omega
     ·
      refine M3.mix_call 34 #[.pointer (some ⟨b,0,none⟩),.int .i64 60000] rfl rfl (by go_simp) ?_
      refine (next_any b (N+2) 60000 w1 (by omega) (by omega) (by omega) hY1.2.2.1).mono ?_
      rintro e w2 ⟨r,rfl,har,hbr,hd,hg⟩
      have hY2:=hY1.deck hd hg
      refine ⟨_,rfl,⟨_,hY2.1⟩,?_⟩
      simp only [Act.put,nqa,nqb,nqc,nqd,nqe,nqf]
      clear hd hg hC1 hY1
      refine M3.mix_step [1] (by kernel_rfl) (by simp) ?_
      intro w3 hC3 hb3 i hi
      simp only [nqj,nqk,or_false] at hi
      subst hi
      have hY3:=hY2.adv hb3
      clear hb3 hY2
      have z:=hY3.1.cell 2
      simp only [nqg,nqh,nqi] at z
      refine M3.mix_val (.int .i64 wh) w3 rfl rfl (by go_simp) ⟨⟨_,hY3.1⟩,?_⟩
      simp only [Act.put,nqa,nqb,nqc,nqd,nqe,nqf]
      clear hC3
      clear z
      refine M3.mix_step [4] (by kernel_rfl) (by simp) ?_
      intro w4 hC4 hb4 i hi
      simp only [nqj,nqk,or_false] at hi
      subst hi
      have hY4:=hY3.adv hb4
      clear hb4 hY3
      refine M3.mix_val (.int .i64 (wh+r)) w4 rfl rfl (by have e:=wrap_in (n:=wh+r) (by omega) (by omega); go_simp) ⟨⟨_,hY4.1⟩,?_⟩
      simp only [Act.put,nqa,nqb,nqc,nqd,nqe,nqf]
      clear hC4
      refine M3.mix_step [5] (by kernel_rfl) (by simp) ?_
      intro w5 hC5 hb5 i hi
      simp only [nqj,nqk,or_false] at hi
      subst hi
      have hY5:=hY4.adv hb5
      clear hb5 hY4
      refine M3.mix_val (.pointer (some ⟨g,2,none⟩)) w5 rfl rfl (by go_simp) ⟨⟨_,hY5.1⟩,?_⟩
      simp only [Act.put,nqa,nqb,nqc,nqd,nqe,nqf]
      clear hC5
      refine M3.mix_step [6] (by kernel_rfl) (by simp) ?_
      intro w6 hC6 hb6 i hi
      simp only [nqj,nqk,or_false] at hi
      subst hi
      have hY6:=hY5.adv hb6
      clear hb6 hY5
      have z:=hY6.1.cell 2
      have fz:=hY6.1.frozen 2
      have lg:=hY6.1.lt
      simp only [nqg,nqh,nqi] at z
      have hY7:=hY6.put2 (wh+r)
      refine M3.mix_skip (w6.setCell ⟨g,2,none⟩ (.int .i64 (wh+r))) rfl rfl (by go_simp) ⟨⟨_,hY7.1⟩,?_⟩
      simp only [Act.put,nqa,nqb,nqc]
      clear z fz lg hC6 hY6
      generalize w6.setCell ⟨g,2,none⟩ (.int .i64 (wh+r)) = w7 at *
      refine M3.mix_end (by kernel_rfl) ?_
      intro w8 hC8 hb8
      refine hQ0 _ _ ?_
      have hY8:=hY7.adv hb8
      clear hb8 hC8 hQ0 hY7
      go_wp2_with fail
      go_roundw
      case rel=>exact ⟨n+1,inc+r1,wh+r,by omega,by go_num,by omega,by omega,by rw [show M+5 * k+16+3 * (n+1) = N+2+1 by omega]; exact hY8⟩
      case measure=>simp [intOf]; omega
  ·
   obtain rfl:n = k:=by omega
   obtain ⟨hX7,hR7,hd7,hG7,hI7,hT7,hsep⟩:=hY0
   rename World=>w7
   have x0:=hX7.cell 0
   have x1:=hX7.cell 1
   have x2:=hX7.cell 2
   have x3:=hX7.cell 3
   have x4:=hX7.cell 4
   simp only [nqg,nqh,nqi] at x0 x1 x2 x3 x4
   have l1:=hX7.lt
   clear hX7
   have y0:=hR7.cell 0
   have y1:=hR7.cell 1
   have y2:=hR7.cell 2
   have y3:=hR7.cell 3
   have y4:=hR7.cell 4
   simp only [nqg,nqh,nqi] at y0 y1 y2 y3 y4
   have fy0:=hR7.frozen 0
   have fy1:=hR7.frozen 1
   have fy2:=hR7.frozen 2
   have fy3:=hR7.frozen 3
   have fy4:=hR7.frozen 4
   have l2:=hR7.lt
   have hfin:=hR7.fill [.int .i64 n,.int .i64 inc,.int .i64 wh,.slice Ai ins.length ci,.slice At taken.length ct] rfl
   simp only [putAll,Nat.zero_add,Nat.reduceAdd] at hfin
   have hdF:=(DeckIn.set (DeckIn.set (DeckIn.set (DeckIn.set (DeckIn.set hd7 (g:=w.heap.size) hlt 0 (.int .i64 n)) (g:=w.heap.size) hlt 1 (.int .i64 inc)) (g:=w.heap.size) hlt 2 (.int .i64 wh)) (g:=w.heap.size) hlt 3 (.slice Ai ins.length ci)) (g:=w.heap.size) hlt 4 (.slice At taken.length ct))
   have hGF:=(only_setCell (p:=⟨w.heap.size,4,none⟩) (only_setCell (p:=⟨w.heap.size,3,none⟩) (only_setCell (p:=⟨w.heap.size,2,none⟩) (only_setCell (p:=⟨w.heap.size,1,none⟩) (only_setCell (p:=⟨w.heap.size,0,none⟩) hG7 (.inr (Nat.le_refl _)) (.int .i64 n)) (.inr (Nat.le_refl _)) (.int .i64 inc)) (.inr (Nat.le_refl _)) (.int .i64 wh)) (.inr (Nat.le_refl _)) (.slice Ai ins.length ci)) (.inr (Nat.le_refl _)) (.slice At taken.length ct))
   have hIF:=(((((hI7.set (g:=w.heap.size) (by omega) 0 (.int .i64 n)).set (g:=w.heap.size) (by omega) 1 (.int .i64 inc)).set (g:=w.heap.size) (by omega) 2 (.int .i64 wh)).set (g:=w.heap.size) (by omega) 3 (.slice Ai ins.length ci)).set (g:=w.heap.size) (by omega) 4 (.slice At taken.length ct))
   have hTF:=(((((hT7.set (g:=w.heap.size) (by omega) 0 (.int .i64 n)).set (g:=w.heap.size) (by omega) 1 (.int .i64 inc)).set (g:=w.heap.size) (by omega) 2 (.int .i64 wh)).set (g:=w.heap.size) (by omega) 3 (.slice Ai ins.length ci)).set (g:=w.heap.size) (by omega) 4 (.slice At taken.length ct))
   clear hR7 hd7 hG7 hI7 hT7
   go_wp2_with fail
   generalize World.setCell _ ⟨w.heap.size,4,none⟩ _ = WW at hfin hdF hGF hIF hTF ⊢
   have q0:=hfin.cell 0
   have q1:=hfin.cell 1
   have q2:=hfin.cell 2
   have q3:=hfin.cell 3
   have q4:=hfin.cell 4
   simp only [nqg,nqh,nqi] at q0 q1 q2 q3 q4
   refine bodyPost_ret (v:=.agg #[.int .i64 n,.int .i64 inc,.int .i64 wh,.slice Ai ins.length ci,.slice At taken.length ct]) ?_ rfl (⟨⟨n,inc,wh,Ai,ci,ins,At,ct,taken⟩,rfl,⟨rfl,HIL.out,HIB.out,hinc,hwh,HTK.out⟩,⟨hIF,hTF⟩,hdF.mono (by omega),hGF⟩)
   simp [results,Tryz.results33,go_sem,q0,q1,q2,q3,q4]
end Go.Proofs.YtlhkojcmcmkmaaaGreat
