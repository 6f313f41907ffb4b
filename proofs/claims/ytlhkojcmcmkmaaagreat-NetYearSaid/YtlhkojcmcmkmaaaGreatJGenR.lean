/- Joined texts: GenR. Conditions: as stated. -/
import Derived.Test.YtlhkojcmcmkmaaaGreatJGenF
namespace Go.Proofs.YtlhkojcmcmkmaaaGreat
open Go.RowKit
structure RulesF (m:RulesM) (w:World) (base:Nat) : Prop where
 ws:FrS encW 6 w base m.Aw m.ws
 ss:FrS encSch 8 w base m.As m.ss
 tm:TarF m.tm w base
theorem RulesF.grown {m:RulesM} {w w' : World} {base:Nat} {row:Option Nat} (h:RulesF m w base) (hg:w.grownBy w' row) (hr : ∀ g,row = some g→g < base) : RulesF m w' base:=⟨h.ws.grown hg hr,h.ss.grown hg hr,h.tm.grown hg hr⟩
theorem TarF.weaken {m:TarM} {w:World} {base base' : Nat} (h:TarF m w base) (hb:base'≤base) : TarF m w base':=⟨h.brs.weaken hb,h.rows.weaken hb⟩
theorem TarF.set {m:TarM} {w:World} {base:Nat} (h:TarF m w base) {g:Nat} (hg:g < base) (i:Nat) (u:Value) : TarF m (w.setCell ⟨g,i,none⟩ u) base:=⟨h.brs.set hg i u,h.rows.set hg i u⟩
theorem RulesF.set {m:RulesM} {w:World} {base:Nat} (h:RulesF m w base) {g:Nat} (hg:g < base) (i:Nat) (u:Value) : RulesF m (w.setCell ⟨g,i,none⟩ u) base:=⟨h.ws.set hg i u,h.ss.set hg i u,h.tm.set hg i u⟩
structure RulesG (m:RulesM) : Prop where
 ok:RulesOk m.t
 ws:GenW 4 m.ws
 ss:GenSc 3 m.ss
theorem names4_ : ∀ c ∈ codes4,nameB c = true:=by decide +kernel
theorem sorted4_ : codes4.Pairwise (fun a b=>Op.bytesLess a.toList b.toList = true):=by decide +kernel
theorem GenW.valid_ {ws:List WageT} (h:GenW 4 ws) : validB ws = true:=by
 have hp:(ws.map (·.code)).Pairwise (fun a b=>Op.bytesLess a.toList b.toList = true):=List.Pairwise.sublist (by simpa [codes4] using h.sub) sorted4_
 rw [List.pairwise_map] at hp
 refine validB_yes (by have:=h.len; omega) fun i hi=>?_
 have hx:=h.ok _ (List.getElem_mem hi)
 rw [okAt_eq ws i ws[i] true ?_]
 ·
  have h1:=names4_ _ hx.code
  have h2:=hx.lo
  have h3:=hx.hi
  refine decide_eq_true ⟨h1,.inr rfl,?_,?_,by omega,by omega⟩
  ·
   rcases hx.kind with h | h
   ·
    exact .inl h
   ·
    exact .inr h.1
  ·
   rintro ⟨h4,h5⟩
   rcases hx.kind with h | h
   ·
    omega
   ·
    rw [h.2] at h5; cases h5
 ·
  rcases Nat.eq_zero_or_pos i with h0 | h0
  ·
   exact .inl h0
  ·
   right
   refine ⟨ws[i - 1]'(by omega), List.getElem?_eq_getElem (by omega), ?_⟩
   rw [List.pairwise_iff_getElem] at hp
   exact (hp (i - 1) i (by omega) hi (by omega)).symm
set_option maxRecDepth 100000 in
set_option maxHeartbeats 4000000 in
theorem rules_any (b M : Nat) (mth:Int) (h0:0≤mth) (h3:mth≤3) (w:World) (hM:M≤400000) (hd:DeckIn w b M) :
  Calls Tryz.prog 27 #[.pointer (some ⟨b,0,none⟩),.int .i64 mth] w fun e w'=>∃ m:RulesM,e = .returned (.agg #[.slice m.Aw m.ws.length m.cw,.slice m.As m.ss.length m.cs,.int .i64 m.tm.t.method,.slice m.tm.Ab m.tm.t.brs.length m.tm.cb,.int .i64 m.tm.t.allowance,.int .i64 m.tm.t.credit,.int .i64 m.tm.t.unit,.int .i64 m.tm.t.mode,.slice m.tm.Ar m.tm.t.rows.length m.tm.cr,.int .i64 m.count,.int .i64 m.sh.fixed,.int .i64 m.sh.dependent,.int .i64 m.sh.lower,.int .i64 m.sh.share,.int .i64 m.sh.top,.int .i64 m.recover])∧RulesG m∧MethIs mth m.tm∧RulesF m w' (w.heap.size+1)∧DeckIn w' b (M+110)∧w.grownBy w' (some b):=by
 have hlt:=hd.lt
 go_enter Tryz.func27,Tryz.ntmps27
 go_wp2_with fail
 refine (wages_any b M _ (by omega) (hd.alloc _)).mono ?_
 rintro e w1 ⟨v1,ws,rfl,hws,how,hd1,hg1⟩
 obtain ⟨Aw,cw,rfl,hW1⟩:=how.fresh encW_len
 rw [World.size_alloc] at hW1
 have HWS:=Lib.hid hws
 clear hws how
 go_wp2_with fail
 refine (schemes_any b (M+20) _ (by omega) hd1).mono ?_
 rintro e w2 ⟨v2,ss,rfl,hss,hos,hd2,hg2⟩
 obtain ⟨As,cs,rfl,hS2⟩:=hos.fresh encSch_len
 have hz1:w.heap.size+1≤w1.heap.size:=by have:=hg1.size; rw [World.size_alloc] at this; omega
 have hS2':=hS2.weaken hz1
 have HSS:=Lib.hid hss
 clear hss hos hS2
 have hW2:=hW1.grown hg2 (fun g e=>by injection e; omega)
 clear hW1
 go_wp2_with fail
 refine (tariff_any b (M+20+33) mth h0 h3 _ (by omega) hd2).mono ?_
 rintro e w3 ⟨tm,rfl,htok,hmi,hT3,hd3,hg3⟩
 have hz2:w.heap.size+1≤w2.heap.size:=by have:=hg2.size; omega
 have hT3':=hT3.weaken (base':=w.heap.size+1) (by omega)
 have hW3:=hW2.grown hg3 (fun g e=>by injection e; omega)
 have hS3:=hS2'.grown hg3 (fun g e=>by injection e; omega)
 have HTO:=Lib.hid htok
 have HMI:=Lib.hid hmi
 clear htok hmi hT3 hW2 hS2'
 go_wp2_with fail
 refine (pick_new b (M+20+33+40) w3 [12,12,4,1,53] _ _ _ rfl rfl (by omega) hd3 (by simp) (by simp)).mono ?_
 rintro e w4 ⟨r4,rfl,hm4,hd4,hg4⟩
 go_wp2_with fail
 refine (shield_any b (M+20+33+40+1) _ (by omega) hd4).mono ?_
 rintro e w5 ⟨sh,rfl,hsh,hd5,hg5⟩
 have HSH:=Lib.hid hsh
 clear hsh
 go_wp2_with fail
 refine (pick_new b (M+20+33+40+1+10) w5 [300000,0,1000000] _ _ _ rfl rfl (by omega) hd5 (by simp) (by simp)).mono ?_
 rintro e w6 ⟨r6,rfl,hm6,hd6,hg6⟩
 have hdr4:1≤r4∧r4≤53:=by simp at hm4; omega
 have hdr6:0≤r6∧r6≤1000000:=by simp at hm6; omega
 have hG36:=only_trans (only_trans hg4 hg5) hg6
 have hW6:=hW3.grown hG36 (fun g e=>by injection e; omega)
 have hS6:=hS3.grown hG36 (fun g e=>by injection e; omega)
 have hT6:=hT3'.grown hG36 (fun g e=>by injection e; omega)
 have hG6:w.grownBy w6 (some b):=only_trans (only_trans (only_trans (only_trans (only_alloc (only_refl _ _) _) hg1) hg2) hg3) hG36
 have hR6:=(((Blk.new w 45 #[.slice none 0 0,.slice none 0 0,.int .i64 0,.slice none 0 0,.int .i64 0,.int .i64 0,.int .i64 0,.int .i64 0,.slice none 0 0,.int .i64 0,.int .i64 0,.int .i64 0,.int .i64 0,.int .i64 0,.int .i64 0,.int .i64 0]).grown hg1 (by intro e; injection e; omega)).grown hg2 (by intro e; injection e; omega)).grown hg3 (by intro e; injection e; omega) |>.grown hG36 (by intro e; injection e; omega)
 clear hg1 hg2 hg3 hg4 hg5 hg6 hd1 hd2 hd3 hd4 hd5 hd hm4 hm6 hW3 hS3 hT3' hG36
 have y0:=hR6.cell 0
 have y1:=hR6.cell 1
 have y2:=hR6.cell 2
 have y3:=hR6.cell 3
 have y4:=hR6.cell 4
 have y5:=hR6.cell 5
 have y6:=hR6.cell 6
 have y7:=hR6.cell 7
 have y8:=hR6.cell 8
 have y9:=hR6.cell 9
 have y10:=hR6.cell 10
 have y11:=hR6.cell 11
 have y12:=hR6.cell 12
 have y13:=hR6.cell 13
 have y14:=hR6.cell 14
 have y15:=hR6.cell 15
 simp only [nqg,nqh,nqi] at y0 y1 y2 y3 y4 y5 y6 y7 y8 y9 y10 y11 y12 y13 y14 y15
 have fy0:=hR6.frozen 0
 have fy1:=hR6.frozen 1
 have fy2:=hR6.frozen 2
 have fy3:=hR6.frozen 3
 have fy4:=hR6.frozen 4
 have fy5:=hR6.frozen 5
 have fy6:=hR6.frozen 6
 have fy7:=hR6.frozen 7
 have fy8:=hR6.frozen 8
 have fy9:=hR6.frozen 9
 have fy10:=hR6.frozen 10
 have fy11:=hR6.frozen 11
 have fy12:=hR6.frozen 12
 have fy13:=hR6.frozen 13
 have fy14:=hR6.frozen 14
 have fy15:=hR6.frozen 15
 have l2:=hR6.lt
 have hfin:=hR6.fill [.slice Aw ws.length cw,.slice As ss.length cs,.int .i64 tm.t.method,.slice tm.Ab tm.t.brs.length tm.cb,.int .i64 tm.t.allowance,.int .i64 tm.t.credit,.int .i64 tm.t.unit,.int .i64 tm.t.mode,.slice tm.Ar tm.t.rows.length tm.cr,.int .i64 r4,.int .i64 sh.fixed,.int .i64 sh.dependent,.int .i64 sh.lower,.int .i64 sh.share,.int .i64 sh.top,.int .i64 r6] rfl
 simp only [putAll,Nat.zero_add,Nat.reduceAdd] at hfin
 have hdF:=(DeckIn.set (DeckIn.set (DeckIn.set (DeckIn.set (DeckIn.set (DeckIn.set (DeckIn.set (DeckIn.set (DeckIn.set (DeckIn.set (DeckIn.set (DeckIn.set (DeckIn.set (DeckIn.set (DeckIn.set (DeckIn.set hd6 (g:=w.heap.size) hlt 0 (.slice Aw ws.length cw)) (g:=w.heap.size) hlt 1 (.slice As ss.length cs)) (g:=w.heap.size) hlt 2 (.int .i64 tm.t.method)) (g:=w.heap.size) hlt 3 (.slice tm.Ab tm.t.brs.length tm.cb)) (g:=w.heap.size) hlt 4 (.int .i64 tm.t.allowance)) (g:=w.heap.size) hlt 5 (.int .i64 tm.t.credit)) (g:=w.heap.size) hlt 6 (.int .i64 tm.t.unit)) (g:=w.heap.size) hlt 7 (.int .i64 tm.t.mode)) (g:=w.heap.size) hlt 8 (.slice tm.Ar tm.t.rows.length tm.cr)) (g:=w.heap.size) hlt 9 (.int .i64 r4)) (g:=w.heap.size) hlt 10 (.int .i64 sh.fixed)) (g:=w.heap.size) hlt 11 (.int .i64 sh.dependent)) (g:=w.heap.size) hlt 12 (.int .i64 sh.lower)) (g:=w.heap.size) hlt 13 (.int .i64 sh.share)) (g:=w.heap.size) hlt 14 (.int .i64 sh.top)) (g:=w.heap.size) hlt 15 (.int .i64 r6))
 have hGF:=(only_setCell (p:=⟨w.heap.size,15,none⟩) (only_setCell (p:=⟨w.heap.size,14,none⟩) (only_setCell (p:=⟨w.heap.size,13,none⟩) (only_setCell (p:=⟨w.heap.size,12,none⟩) (only_setCell (p:=⟨w.heap.size,11,none⟩) (only_setCell (p:=⟨w.heap.size,10,none⟩) (only_setCell (p:=⟨w.heap.size,9,none⟩) (only_setCell (p:=⟨w.heap.size,8,none⟩) (only_setCell (p:=⟨w.heap.size,7,none⟩) (only_setCell (p:=⟨w.heap.size,6,none⟩) (only_setCell (p:=⟨w.heap.size,5,none⟩) (only_setCell (p:=⟨w.heap.size,4,none⟩) (only_setCell (p:=⟨w.heap.size,3,none⟩) (only_setCell (p:=⟨w.heap.size,2,none⟩) (only_setCell (p:=⟨w.heap.size,1,none⟩) (only_setCell (p:=⟨w.heap.size,0,none⟩) hG6 (.inr (Nat.le_refl _)) (.slice Aw ws.length cw)) (.inr (Nat.le_refl _)) (.slice As ss.length cs)) (.inr (Nat.le_refl _)) (.int .i64 tm.t.method)) (.inr (Nat.le_refl _)) (.slice tm.Ab tm.t.brs.length tm.cb)) (.inr (Nat.le_refl _)) (.int .i64 tm.t.allowance)) (.inr (Nat.le_refl _)) (.int .i64 tm.t.credit)) (.inr (Nat.le_refl _)) (.int .i64 tm.t.unit)) (.inr (Nat.le_refl _)) (.int .i64 tm.t.mode)) (.inr (Nat.le_refl _)) (.slice tm.Ar tm.t.rows.length tm.cr)) (.inr (Nat.le_refl _)) (.int .i64 r4)) (.inr (Nat.le_refl _)) (.int .i64 sh.fixed)) (.inr (Nat.le_refl _)) (.int .i64 sh.dependent)) (.inr (Nat.le_refl _)) (.int .i64 sh.lower)) (.inr (Nat.le_refl _)) (.int .i64 sh.share)) (.inr (Nat.le_refl _)) (.int .i64 sh.top)) (.inr (Nat.le_refl _)) (.int .i64 r6))
 have hWF:=((((((((((((((((hW6.set (g:=w.heap.size) (by omega) 0 (.slice Aw ws.length cw)).set (g:=w.heap.size) (by omega) 1 (.slice As ss.length cs)).set (g:=w.heap.size) (by omega) 2 (.int .i64 tm.t.method)).set (g:=w.heap.size) (by omega) 3 (.slice tm.Ab tm.t.brs.length tm.cb)).set (g:=w.heap.size) (by omega) 4 (.int .i64 tm.t.allowance)).set (g:=w.heap.size) (by omega) 5 (.int .i64 tm.t.credit)).set (g:=w.heap.size) (by omega) 6 (.int .i64 tm.t.unit)).set (g:=w.heap.size) (by omega) 7 (.int .i64 tm.t.mode)).set (g:=w.heap.size) (by omega) 8 (.slice tm.Ar tm.t.rows.length tm.cr)).set (g:=w.heap.size) (by omega) 9 (.int .i64 r4)).set (g:=w.heap.size) (by omega) 10 (.int .i64 sh.fixed)).set (g:=w.heap.size) (by omega) 11 (.int .i64 sh.dependent)).set (g:=w.heap.size) (by omega) 12 (.int .i64 sh.lower)).set (g:=w.heap.size) (by omega) 13 (.int .i64 sh.share)).set (g:=w.heap.size) (by omega) 14 (.int .i64 sh.top)).set (g:=w.heap.size) (by omega) 15 (.int .i64 r6))
 have hSF:=((((((((((((((((hS6.set (g:=w.heap.size) (by omega) 0 (.slice Aw ws.length cw)).set (g:=w.heap.size) (by omega) 1 (.slice As ss.length cs)).set (g:=w.heap.size) (by omega) 2 (.int .i64 tm.t.method)).set (g:=w.heap.size) (by omega) 3 (.slice tm.Ab tm.t.brs.length tm.cb)).set (g:=w.heap.size) (by omega) 4 (.int .i64 tm.t.allowance)).set (g:=w.heap.size) (by omega) 5 (.int .i64 tm.t.credit)).set (g:=w.heap.size) (by omega) 6 (.int .i64 tm.t.unit)).set (g:=w.heap.size) (by omega) 7 (.int .i64 tm.t.mode)).set (g:=w.heap.size) (by omega) 8 (.slice tm.Ar tm.t.rows.length tm.cr)).set (g:=w.heap.size) (by omega) 9 (.int .i64 r4)).set (g:=w.heap.size) (by omega) 10 (.int .i64 sh.fixed)).set (g:=w.heap.size) (by omega) 11 (.int .i64 sh.dependent)).set (g:=w.heap.size) (by omega) 12 (.int .i64 sh.lower)).set (g:=w.heap.size) (by omega) 13 (.int .i64 sh.share)).set (g:=w.heap.size) (by omega) 14 (.int .i64 sh.top)).set (g:=w.heap.size) (by omega) 15 (.int .i64 r6))
 have hTF:=((((((((((((((((hT6.set (g:=w.heap.size) (by omega) 0 (.slice Aw ws.length cw)).set (g:=w.heap.size) (by omega) 1 (.slice As ss.length cs)).set (g:=w.heap.size) (by omega) 2 (.int .i64 tm.t.method)).set (g:=w.heap.size) (by omega) 3 (.slice tm.Ab tm.t.brs.length tm.cb)).set (g:=w.heap.size) (by omega) 4 (.int .i64 tm.t.allowance)).set (g:=w.heap.size) (by omega) 5 (.int .i64 tm.t.credit)).set (g:=w.heap.size) (by omega) 6 (.int .i64 tm.t.unit)).set (g:=w.heap.size) (by omega) 7 (.int .i64 tm.t.mode)).set (g:=w.heap.size) (by omega) 8 (.slice tm.Ar tm.t.rows.length tm.cr)).set (g:=w.heap.size) (by omega) 9 (.int .i64 r4)).set (g:=w.heap.size) (by omega) 10 (.int .i64 sh.fixed)).set (g:=w.heap.size) (by omega) 11 (.int .i64 sh.dependent)).set (g:=w.heap.size) (by omega) 12 (.int .i64 sh.lower)).set (g:=w.heap.size) (by omega) 13 (.int .i64 sh.share)).set (g:=w.heap.size) (by omega) 14 (.int .i64 sh.top)).set (g:=w.heap.size) (by omega) 15 (.int .i64 r6))
 clear hR6 hd6 hG6 hW6 hS6 hT6
 go_wp2_with fail
 generalize World.setCell _ ⟨w.heap.size,15,none⟩ _ = WW at hfin hdF hGF hWF hSF hTF ⊢
 have q0:=hfin.cell 0
 have q1:=hfin.cell 1
 have q2:=hfin.cell 2
 have q3:=hfin.cell 3
 have q4:=hfin.cell 4
 have q5:=hfin.cell 5
 have q6:=hfin.cell 6
 have q7:=hfin.cell 7
 have q8:=hfin.cell 8
 have q9:=hfin.cell 9
 have q10:=hfin.cell 10
 have q11:=hfin.cell 11
 have q12:=hfin.cell 12
 have q13:=hfin.cell 13
 have q14:=hfin.cell 14
 have q15:=hfin.cell 15
 simp only [nqg,nqh,nqi] at q0 q1 q2 q3 q4 q5 q6 q7 q8 q9 q10 q11 q12 q13 q14 q15
 refine bodyPost_ret (v:=.agg #[.slice Aw ws.length cw,.slice As ss.length cs,.int .i64 tm.t.method,.slice tm.Ab tm.t.brs.length tm.cb,.int .i64 tm.t.allowance,.int .i64 tm.t.credit,.int .i64 tm.t.unit,.int .i64 tm.t.mode,.slice tm.Ar tm.t.rows.length tm.cr,.int .i64 r4,.int .i64 sh.fixed,.int .i64 sh.dependent,.int .i64 sh.lower,.int .i64 sh.share,.int .i64 sh.top,.int .i64 r6]) ?_ rfl (⟨⟨Aw,cw,ws,As,cs,ss,tm,r4,sh,r6⟩,rfl,⟨⟨HWS.out.valid_,by have:=HSS.out.len; show ss.length≤12; omega,HSS.out.schs.1,HSS.out.schs.2,HTO.out,hdr4.1,hdr4.2,HSH.out,hdr6.1,hdr6.2⟩,HWS.out,HSS.out⟩,HMI.out,⟨hWF,hSF,hTF⟩,hdF.mono (by omega),hGF⟩)
 simp [results,Tryz.results27,go_sem,q0,q1,q2,q3,q4,q5,q6,q7,q8,q9,q10,q11,q12,q13,q14,q15]
end Go.Proofs.YtlhkojcmcmkmaaaGreat
