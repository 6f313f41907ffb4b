/- Joined texts: GenC. Conditions: as stated. -/
import Derived.Test.YtlhkojcmcmkmaaaGreatJNetM
import Derived.Test.YtlhkojcmcmkmaaaGreatJCmp0
import Derived.Test.YtlhkojcmcmkmaaaGreatJGenP2
namespace Go.Proofs.YtlhkojcmcmkmaaaGreat
open Go.RowKit
structure FrN {α:Type} (enc:α→List Value) (k:Nat) (w:World) (base g : Nat) (A:Option Addr) (xs:List α) : Prop where
 sl:SliceOf enc k w w.heap.size A xs
 fr:∀ a,A = some a→base≤a.block
 ne:xs ≠ []→∀ a,A = some a→a.block ≠ g
section
variable {α:Type} {enc:α→List Value} {k:Nat} {w w':World} {base base' g:Nat} {A:Option Addr} {xs:List α}
theorem FrN.grown {row:Option Nat} (h:FrN enc k w base g A xs) (hg:w.grownBy w' row) (hr : ∀ q,row = some q→q < base ∨ q = g) : FrN enc k w' base g A xs:=by
 refine ⟨fun hne=>?_,h.fr,h.ne⟩
 exact (h.sl.advN hg (fun a ha e=>by
  have h1:=h.fr a ha
  have h3:=h.ne hne a ha
  rcases hr _ e with h2 | h2
  ·
   omega
  ·
   exact h3 h2)) hne
theorem FrN.off (h:FrN enc k w base g A xs) (i:Nat) (u:Value) : FrN enc k (w.setCell ⟨g,i,none⟩ u) base g A xs :=
 h.grown (row:=some g) (only_setCell (p:=⟨g,i,none⟩) (only_refl _ _) (.inl rfl) u) (fun q e=>.inr (by injection e with e; exact e.symm))
theorem FrN.adv (h:FrN enc k w base g A xs) (hb:Below w.heap.size w w') : FrN enc k w' base g A xs:=⟨h.sl.adv hb,h.fr,h.ne⟩
theorem FrS.toN1 (h:FrS enc k w base A xs) (hg:w.heap.size≤g) : FrN enc k w base g A xs:=⟨h.sl,h.fr,fun hne a ha=>by
 obtain ⟨q,off,e,hq,_⟩:=h.sl hne
 rw [e] at ha
 injection ha with ha
 subst ha
 show q ≠ g
 omega⟩
theorem FrS.toN2 (h:FrS enc k w base' A xs) (hb:base≤base') (hg:g < base') : FrN enc k w base g A xs:=⟨h.sl,fun a ha=>by have:=h.fr a ha; omega,fun _ a ha=>by have:=h.fr a ha; omega⟩
end
structure RulesN (m:RulesM) (w:World) (base g : Nat) : Prop where
 ws:FrN encW 6 w base g m.Aw m.ws
 ss:FrN encSch 8 w base g m.As m.ss
 brs:FrN encBr 2 w base g m.tm.Ab m.tm.t.brs
 rows:FrN encRw 2 w base g m.tm.Ar m.tm.t.rows
theorem RulesN.grown {m:RulesM} {w w' : World} {base g : Nat} {row:Option Nat} (h:RulesN m w base g) (hg:w.grownBy w' row) (hr : ∀ q,row = some q→q < base ∨ q = g) : RulesN m w' base g:=⟨h.ws.grown hg hr,h.ss.grown hg hr,h.brs.grown hg hr,h.rows.grown hg hr⟩
theorem RulesN.off {m:RulesM} {w:World} {base g : Nat} (h:RulesN m w base g) (i:Nat) (u:Value) : RulesN m (w.setCell ⟨g,i,none⟩ u) base g:=⟨h.ws.off i u,h.ss.off i u,h.brs.off i u,h.rows.off i u⟩
theorem RulesN.in_ {m:RulesM} {w:World} {base g : Nat} (h:RulesN m w base g) : m.In w:=⟨h.ws.sl,h.ss.sl,⟨h.brs.sl,h.rows.sl⟩⟩
theorem RulesN.set {m:RulesM} {w:World} {base g q : Nat} (h:RulesN m w base g) (hq:q < base) (i:Nat) (u:Value) : RulesN m (w.setCell ⟨q,i,none⟩ u) base g:=h.grown (row:=some q) (only_setCell (p:=⟨q,i,none⟩) (only_refl _ _) (.inl rfl) u) (fun p e=>.inl (by injection e; omega))
theorem RulesF.toN1 {m:RulesM} {w:World} {base g : Nat} (h:RulesF m w base) (hg:w.heap.size≤g) : RulesN m w base g:=⟨h.ws.toN1 hg,h.ss.toN1 hg,h.tm.brs.toN1 hg,h.tm.rows.toN1 hg⟩
structure PersonN (m:PersonM) (w:World) (base g : Nat) : Prop where
 ds:FrN encD 6 w base g m.Ad m.ds
 os:FrN encOd 5 w base g m.Ao m.os
 es:FrN encEm 2 w base g m.Ae m.es
 ins:∀ e ∈ m.es,FrN encI 1 w base g e.A e.l
theorem PersonN.grown {m:PersonM} {w w' : World} {base g : Nat} {row:Option Nat} (h:PersonN m w base g) (hg:w.grownBy w' row) (hr : ∀ q,row = some q→q < base ∨ q = g) : PersonN m w' base g:=⟨h.ds.grown hg hr,h.os.grown hg hr,h.es.grown hg hr,fun e he=>(h.ins e he).grown hg hr⟩
theorem PersonN.off {m:PersonM} {w:World} {base g : Nat} (h:PersonN m w base g) (i:Nat) (u:Value) : PersonN m (w.setCell ⟨g,i,none⟩ u) base g:=⟨h.ds.off i u,h.os.off i u,h.es.off i u,fun e he=>(h.ins e he).off i u⟩
theorem PersonN.in_ {m:PersonM} {w:World} {base g : Nat} (h:PersonN m w base g) : m.In w:=⟨h.ds.sl,h.os.sl,h.es.sl,fun e he=>(h.ins e he).sl⟩
theorem PersonN.set {m:PersonM} {w:World} {base g q : Nat} (h:PersonN m w base g) (hq:q < base) (i:Nat) (u:Value) : PersonN m (w.setCell ⟨q,i,none⟩ u) base g:=h.grown (row:=some q) (only_setCell (p:=⟨q,i,none⟩) (only_refl _ _) (.inl rfl) u) (fun p e=>.inl (by injection e; omega))
theorem PersonF.toN2 {m:PersonM} {w:World} {base base' g : Nat} (h:PersonF m w base') (hb:base≤base') (hg:g < base') : PersonN m w base g:=⟨h.ds.toN2 hb hg,h.os.toN2 hb hg,h.es.toN2 hb hg,fun e he=>(h.ins e he).toN2 hb hg⟩
structure YearN (m:YearM) (w:World) (base g : Nat) : Prop where
 ins:FrN encI 1 w base g m.Ai m.ins
 taken:FrN encE 2 w base g m.At m.taken
theorem YearN.grown {m:YearM} {w w' : World} {base g : Nat} {row:Option Nat} (h:YearN m w base g) (hg:w.grownBy w' row) (hr : ∀ q,row = some q→q < base ∨ q = g) : YearN m w' base g:=⟨h.ins.grown hg hr,h.taken.grown hg hr⟩
theorem YearN.off {m:YearM} {w:World} {base g : Nat} (h:YearN m w base g) (i:Nat) (u:Value) : YearN m (w.setCell ⟨g,i,none⟩ u) base g:=⟨h.ins.off i u,h.taken.off i u⟩
theorem YearN.in_ {m:YearM} {w:World} {base g : Nat} (h:YearN m w base g) : m.In w:=⟨h.ins.sl,h.taken.sl⟩
theorem YearN.set {m:YearM} {w:World} {base g q : Nat} (h:YearN m w base g) (hq:q < base) (i:Nat) (u:Value) : YearN m (w.setCell ⟨q,i,none⟩ u) base g:=h.grown (row:=some q) (only_setCell (p:=⟨q,i,none⟩) (only_refl _ _) (.inl rfl) u) (fun p e=>.inl (by injection e; omega))
theorem YearF.toN2 {m:YearM} {w:World} {base base' g : Nat} (h:YearF m w base') (hb:base≤base') (hg:g < base') : YearN m w base g:=⟨h.ins.toN2 hb hg,h.taken.toN2 hb hg⟩
theorem FrN.set {α:Type} {enc:α→List Value} {k:Nat} {w:World} {base g q : Nat} {A:Option Addr} {xs:List α} (h:FrN enc k w base g A xs) (hq:q < base) (i:Nat) (u:Value) : FrN enc k (w.setCell ⟨q,i,none⟩ u) base g A xs:=h.grown (row:=some q) (only_setCell (p:=⟨q,i,none⟩) (only_refl _ _) (.inl rfl) u) (fun p e=>.inl (by injection e; omega))
def CsIn (w:World) (b g : Nat) (cs:Array Value) (M:Nat) (wx:World) : Prop :=
 Blk wx g 55 cs∧Blk wx w.heap.size 55 #[.slice none 0 0,.slice none 0 0,.int .i64 0,.slice none 0 0,.int .i64 0,.int .i64 0,.int .i64 0,.int .i64 0,.slice none 0 0,.int .i64 0,.int .i64 0,.int .i64 0,.int .i64 0,.int .i64 0,.int .i64 0,.int .i64 0,.int .i64 0,.slice none 0 0,.slice none 0 0,.slice none 0 0,.int .i64 0,.int .i64 0,.int .i64 0,.slice none 0 0,.slice none 0 0,.slice none 0 0,.bool false,.slice none 0 0]∧DeckIn wx b M∧w.grownBy wx (some b)∧w.heap.size < g∧b < w.heap.size
section
variable {w wx wy:World} {b g M M':Nat} {cs:Array Value}
theorem CsIn.deck (h:CsIn w b g cs M wx) (hd:DeckIn wy b M') (hg:wx.grownBy wy (some b)) : CsIn w b g cs M' wy:=by
 obtain ⟨h1,h2,h3,h4,h5,h6⟩:=h
 exact ⟨h1.grown hg (by intro e; injection e; omega),h2.grown hg (by intro e; injection e; omega),hd,only_trans h4 hg,h5,h6⟩
theorem CsIn.st {cs' : Array Value} (h:CsIn w b g cs M wx) (hB:Blk wy g 55 cs') (hg:wx.grownBy wy (some g)) : CsIn w b g cs' M wy:=by
 obtain ⟨h1,h2,h3,h4,h5,h6⟩:=h
 exact ⟨hB,h2.grown hg (by intro e; injection e; omega),h3.grown hg (fun q e=>by injection e; omega),only_then h4 hg (fun q e=>.inl (by injection e; omega)),h5,h6⟩
theorem CsIn.put (h:CsIn w b g cs M wx) (i:Nat) (u:Value) : CsIn w b g (cs.setIfInBounds i u) M (wx.setCell ⟨g,i,none⟩ u):=by
 obtain ⟨h1,h2,h3,h4,h5,h6⟩:=h
 exact ⟨h1.set_ i u,h2.far (p:=⟨g,i,none⟩) (by show w.heap.size ≠ g; omega) u,h3.set (by omega) i u,only_setCell (p:=⟨g,i,none⟩) h4 (.inr (by show w.heap.size≤g; omega)) u,h5,h6⟩
theorem CsIn.alloc (h:CsIn w b g cs M wx) (o:Obj) : CsIn w b g cs M (wx.alloc o):=by
 obtain ⟨h1,h2,h3,h4,h5,h6⟩:=h
 exact ⟨h1.alloc o,h2.alloc o,h3.alloc o,only_alloc h4 o,h5,h6⟩
end
def cCity : ByteArray:=⟨#[99,105,116,121]⟩
structure CaseG (rm:RulesM) (pm:PersonM) (ym:YearM) (kept es : List Elem) : Prop where
 r:RulesG rm
 k:∃ k:Nat,k≤3∧(k:Int) < rm.count∧PersonG k pm∧YearG k ym
 kept:kept = [] ∨ ∃ r:Int,0≤r∧r < 600000∧kept = [⟨cCity,r⟩]
 e:GenE rm.ws es∧es.length≤5
theorem sizePerson : (Tryz.prog.info? 50).map (·.size) = some 4:=by kernel_rfl
theorem sizeYear : (Tryz.prog.info? 53).map (·.size) = some 5:=by kernel_rfl
theorem sizeCase : (Tryz.prog.info? 55).map (·.size) = some 28:=by kernel_rfl
def CaseAt (w:World) (b g : Nat) (rm:RulesM) (M:Nat) (wx:World) : Prop:=CsIn w b g #[.slice rm.Aw rm.ws.length rm.cw,.slice rm.As rm.ss.length rm.cs,.int .i64 rm.tm.t.method,.slice rm.tm.Ab rm.tm.t.brs.length rm.tm.cb,.int .i64 rm.tm.t.allowance,.int .i64 rm.tm.t.credit,.int .i64 rm.tm.t.unit,.int .i64 rm.tm.t.mode,.slice rm.tm.Ar rm.tm.t.rows.length rm.tm.cr,.int .i64 rm.count,.int .i64 rm.sh.fixed,.int .i64 rm.sh.dependent,.int .i64 rm.sh.lower,.int .i64 rm.sh.share,.int .i64 rm.sh.top,.int .i64 rm.recover,.int .i64 0,.slice none 0 0,.slice none 0 0,.slice none 0 0,.int .i64 0,.int .i64 0,.int .i64 0,.slice none 0 0,.slice none 0 0,.slice none 0 0,.bool false,.slice none 0 0] M wx∧RulesN rm wx (w.heap.size+1) g
set_option maxRecDepth 100000 in
set_option maxHeartbeats 8000000 in
theorem case_any (b M : Nat) (mth:Int) (h0:0≤mth) (h3:mth≤3) (w:World) (hM:M≤100000) (hd:DeckIn w b M) :
  Calls Tryz.prog 20 #[.pointer (some ⟨b,0,none⟩),.int .i64 mth] w fun e w'=>∃ (rm:RulesM) (pm:PersonM) (ym:YearM) (Ak:Option Addr) (kc:Nat) (kept:List Elem) (first:Bool) (E:Option Addr) (ec:Nat) (es:List Elem),e = .returned (.agg #[.slice rm.Aw rm.ws.length rm.cw,.slice rm.As rm.ss.length rm.cs,.int .i64 rm.tm.t.method,.slice rm.tm.Ab rm.tm.t.brs.length rm.tm.cb,.int .i64 rm.tm.t.allowance,.int .i64 rm.tm.t.credit,.int .i64 rm.tm.t.unit,.int .i64 rm.tm.t.mode,.slice rm.tm.Ar rm.tm.t.rows.length rm.tm.cr,.int .i64 rm.count,.int .i64 rm.sh.fixed,.int .i64 rm.sh.dependent,.int .i64 rm.sh.lower,.int .i64 rm.sh.share,.int .i64 rm.sh.top,.int .i64 rm.recover,.int .i64 pm.deps,.slice pm.Ad pm.ds.length pm.cd,.slice pm.Ao pm.os.length pm.co,.slice pm.Ae pm.es.length pm.ce,.int .i64 ym.periods,.int .i64 ym.income,.int .i64 ym.withheld,.slice ym.Ai ym.ins.length ym.ci,.slice ym.At ym.taken.length ym.ct,.slice Ak kept.length kc,.bool first,.slice E es.length ec])∧CaseG rm pm ym kept es∧(MethIs mth rm.tm∧es.length≤ec)∧rm.In w'∧pm.In w'∧ym.In w'∧SliceOf encE 2 w' w'.heap.size Ak kept∧SliceOf encE 2 w' w'.heap.size E es∧DeckIn w' b (M+910)∧w.grownBy w' (some b):=by
 have hlt:=hd.lt
 go_enter Tryz.func20,Tryz.ntmps20
 go_wp2_with fail
 refine (rules_any b M mth h0 h3 _ (by omega) (hd.alloc _)).mono ?_
 rintro e w1 ⟨rm,rfl,hrg,hmi,hRF,hd1,hg1⟩
 rw [World.size_alloc] at hRF
 have HRG:=Lib.hid hrg
 have HMI:=Lib.hid hmi
 clear hrg hmi
 have hz1:w.heap.size+1≤w1.heap.size:=by have:=hg1.size; rw [World.size_alloc] at this; omega
 have hRN1:=hRF.toN1 (g:=w1.heap.size) (Nat.le_refl _)
 have hR1:=(Blk.new w 55 #[.slice none 0 0,.slice none 0 0,.int .i64 0,.slice none 0 0,.int .i64 0,.int .i64 0,.int .i64 0,.int .i64 0,.slice none 0 0,.int .i64 0,.int .i64 0,.int .i64 0,.int .i64 0,.int .i64 0,.int .i64 0,.int .i64 0,.int .i64 0,.slice none 0 0,.slice none 0 0,.slice none 0 0,.int .i64 0,.int .i64 0,.int .i64 0,.slice none 0 0,.slice none 0 0,.slice none 0 0,.bool false,.slice none 0 0]).grown hg1 (by intro e; injection e; omega)
 have hG1:=only_trans (only_alloc (only_refl w (some b)) (.cells #[.slice none 0 0,.slice none 0 0,.int .i64 0,.slice none 0 0,.int .i64 0,.int .i64 0,.int .i64 0,.int .i64 0,.slice none 0 0,.int .i64 0,.int .i64 0,.int .i64 0,.int .i64 0,.int .i64 0,.int .i64 0,.int .i64 0,.int .i64 0,.slice none 0 0,.slice none 0 0,.slice none 0 0,.int .i64 0,.int .i64 0,.int .i64 0,.slice none 0 0,.slice none 0 0,.slice none 0 0,.bool false,.slice none 0 0] 55)) hg1
 clear hRF hd hg1
 have hw01:w.heap.size ≠ w1.heap.size:=by omega
 go_upto_region 2 with (refine wpList_store_blk rfl _ _ _ rfl rfl w1.heap.size rfl rfl (Blk.new w1 55 #[.slice none 0 0,.slice none 0 0,.int .i64 0,.slice none 0 0,.int .i64 0,.int .i64 0,.int .i64 0,.int .i64 0,.slice none 0 0,.int .i64 0,.int .i64 0,.int .i64 0,.int .i64 0,.int .i64 0,.int .i64 0,.int .i64 0,.int .i64 0,.slice none 0 0,.slice none 0 0,.slice none 0 0,.int .i64 0,.int .i64 0,.int .i64 0,.slice none 0 0,.slice none 0 0,.slice none 0 0,.bool false,.slice none 0 0]) rfl sizeCase rfl ?_; intro w2 hX2 hg2)
 have hs2:=hX2.lt
 have hrg1:∀ q,some w1.heap.size = some q→q < w.heap.size+1 ∨ q = w1.heap.size:=fun q e=>.inr (by injection e with e; exact e.symm)
 have hN2:RulesN rm w2 (w.heap.size+1) w1.heap.size :=
  (RulesN.grown (row:=none) ⟨⟨hRN1.ws.sl,fun a ha=>by have:=hRN1.ws.fr a ha; omega,hRN1.ws.ne⟩,⟨hRN1.ss.sl,fun a ha=>by have:=hRN1.ss.fr a ha; omega,hRN1.ss.ne⟩,⟨hRN1.brs.sl,fun a ha=>by have:=hRN1.brs.fr a ha; omega,hRN1.brs.ne⟩,⟨hRN1.rows.sl,fun a ha=>by have:=hRN1.rows.fr a ha; omega,hRN1.rows.ne⟩⟩ (only_alloc (only_refl _ _) (.cells #[.slice none 0 0,.slice none 0 0,.int .i64 0,.slice none 0 0,.int .i64 0,.int .i64 0,.int .i64 0,.int .i64 0,.slice none 0 0,.int .i64 0,.int .i64 0,.int .i64 0,.int .i64 0,.int .i64 0,.int .i64 0,.int .i64 0,.int .i64 0,.slice none 0 0,.slice none 0 0,.slice none 0 0,.int .i64 0,.int .i64 0,.int .i64 0,.slice none 0 0,.slice none 0 0,.slice none 0 0,.bool false,.slice none 0 0] 55)) (fun q e=>by cases e)).grown hg2 hrg1
 have hC2:CsIn w b w1.heap.size #[.slice rm.Aw rm.ws.length rm.cw,.slice rm.As rm.ss.length rm.cs,.int .i64 rm.tm.t.method,.slice rm.tm.Ab rm.tm.t.brs.length rm.tm.cb,.int .i64 rm.tm.t.allowance,.int .i64 rm.tm.t.credit,.int .i64 rm.tm.t.unit,.int .i64 rm.tm.t.mode,.slice rm.tm.Ar rm.tm.t.rows.length rm.tm.cr,.int .i64 rm.count,.int .i64 rm.sh.fixed,.int .i64 rm.sh.dependent,.int .i64 rm.sh.lower,.int .i64 rm.sh.share,.int .i64 rm.sh.top,.int .i64 rm.recover,.int .i64 0,.slice none 0 0,.slice none 0 0,.slice none 0 0,.int .i64 0,.int .i64 0,.int .i64 0,.slice none 0 0,.slice none 0 0,.slice none 0 0,.bool false,.slice none 0 0] (M+110) w2 :=
  ⟨hX2,(hR1.alloc _).grown hg2 (by intro e; injection e; omega),(hd1.alloc _).grown hg2 (fun q e=>by injection e; omega),only_then (only_alloc hG1 _) hg2 (fun q e=>.inl (by injection e; omega)),by omega,hlt⟩
 clear hRN1 hd1 hR1 hG1 hX2 hg2 hrg1
 generalize w1.heap.size = g at *
 have hcnt:1≤rm.count:=HRG.out.ok.c0
 have hcnt2:rm.count≤53:=HRG.out.ok.c1
 go_cut [6] from 11 to 16 (fun s6 wx=>∃ k:Nat,s6 = .int .i64 k∧k≤3∧(k:Int) < rm.count∧CaseAt w b g rm (M+110+1) wx)
 case first =>
  as_aux_lemma =>
   have x9:=hC2.1.cell 9
   have l1:=hC2.1.lt
   simp only [nqg,nqh,nqi] at x9
   have HC1:=Lib.hid hC2
   have HN1:=Lib.hid hN2
   clear hC2 hN2
   by_cases h4:4 < rm.count
   all_goals
    go_wp2_with fail
   ·
    refine (next_any b (M+110) 4 _ (by omega) (by omega) (by omega) HC1.out.2.2.1).mono ?_
    rintro e w3 ⟨r3,rfl,ha3,hb3,hd3,hg3⟩
    obtain ⟨k,rfl⟩:=Int.eq_ofNat_of_zero_le ha3
    go_wp2_with fail
    go_meet
    exact ⟨k,rfl,by omega,by omega,HC1.out.deck hd3 hg3,HN1.out.grown hg3 (fun q e=>.inl (by injection e; omega))⟩
   ·
    refine (next_any b (M+110) rm.count _ (by omega) (by omega) (by omega) HC1.out.2.2.1).mono ?_
    rintro e w3 ⟨r3,rfl,ha3,hb3,hd3,hg3⟩
    obtain ⟨k,rfl⟩:=Int.eq_ofNat_of_zero_le ha3
    go_wp2_with fail
    go_meet
    exact ⟨k,rfl,by omega,by omega,HC1.out.deck hd3 hg3,HN1.out.grown hg3 (fun q e=>.inl (by injection e; omega))⟩
 case rest =>
  obtain ⟨k,rfl,hk3,hkc,hC3,hN3⟩:=hcut
  rename World=>w3
  clear hC2 hN2
  go_wp2_with fail
  refine (person_any b (M+110+1) k _ (by omega) (by omega) hC3.2.2.1).mono ?_
  rintro e w4 ⟨pm,rfl,hpg,hPF,hd4,hg4⟩
  have hsep:=hC3.1.lt
  have hsz:=hC3.2.2.2.1.size
  have hC4:=hC3.deck hd4 hg4
  have hN4:=hN3.grown hg4 (fun q e=>.inl (by injection e; omega))
  have hP4:=hPF.toN2 (base:=w.heap.size+1) (g:=g) (by omega) (by omega)
  have HPG:=Lib.hid hpg
  clear hpg hPF hd4 hg4 hC3 hN3
  go_wp2_with fail
  refine (year_any b (M+110+1+700) k _ (by omega) (by omega) hC4.2.2.1).mono ?_
  rintro e w5 ⟨ym,rfl,hyg,hYF,hd5,hg5⟩
  have hsep4:=hC4.1.lt
  have hsz4:=hC4.2.2.2.1.size
  have hC5:=hC4.deck hd5 hg5
  have hN5:=hN4.grown hg5 (fun q e=>.inl (by injection e; omega))
  have hP5:=hP4.grown hg5 (fun q e=>.inl (by injection e; omega))
  have hY5:=hYF.toN2 (base:=w.heap.size+1) (g:=g) (by omega) (by omega)
  have HYG:=Lib.hid hyg
  clear hyg hYF hd5 hg5 hC4 hN4 hP4
  go_wp2_with fail
  refine (next_any b (M+110+1+700+60) 4 _ (by omega) (by omega) (by omega) hC5.2.2.1).mono ?_
  rintro e w6 ⟨r6,rfl,ha6,hb6,hd6,hg6⟩
  have hC6:=hC5.deck hd6 hg6
  have hN6:=hN5.grown hg6 (fun q e=>.inl (by injection e; omega))
  have hP6:=hP5.grown hg6 (fun q e=>.inl (by injection e; omega))
  have hY6:=hY5.grown hg6 (fun q e=>.inl (by injection e; omega))
  clear hC5 hN5 hP5 hY5 hg6 hd6 hsep hsz hsep4 hsz4
  have hX6:=hC6.1
  go_upto_region 4 with (first
   | (refine wpList_store_off rfl _ _ _ rfl rfl g 16 #[.slice rm.Aw rm.ws.length rm.cw,.slice rm.As rm.ss.length rm.cs,.int .i64 rm.tm.t.method,.slice rm.tm.Ab rm.tm.t.brs.length rm.tm.cb,.int .i64 rm.tm.t.allowance,.int .i64 rm.tm.t.credit,.int .i64 rm.tm.t.unit,.int .i64 rm.tm.t.mode,.slice rm.tm.Ar rm.tm.t.rows.length rm.tm.cr,.int .i64 rm.count,.int .i64 rm.sh.fixed,.int .i64 rm.sh.dependent,.int .i64 rm.sh.lower,.int .i64 rm.sh.share,.int .i64 rm.sh.top,.int .i64 rm.recover,.int .i64 pm.deps,.slice pm.Ad pm.ds.length pm.cd,.slice pm.Ao pm.os.length pm.co,.slice pm.Ae pm.es.length pm.ce,.int .i64 0,.int .i64 0,.int .i64 0,.slice none 0 0,.slice none 0 0,.slice none 0 0,.bool false,.slice none 0 0] rfl rfl hX6 (by simp) sizePerson rfl rfl ?_; intro w7 hX7 hg7)
   | (refine wpList_store_off rfl _ _ _ rfl rfl g 20 #[.slice rm.Aw rm.ws.length rm.cw,.slice rm.As rm.ss.length rm.cs,.int .i64 rm.tm.t.method,.slice rm.tm.Ab rm.tm.t.brs.length rm.tm.cb,.int .i64 rm.tm.t.allowance,.int .i64 rm.tm.t.credit,.int .i64 rm.tm.t.unit,.int .i64 rm.tm.t.mode,.slice rm.tm.Ar rm.tm.t.rows.length rm.tm.cr,.int .i64 rm.count,.int .i64 rm.sh.fixed,.int .i64 rm.sh.dependent,.int .i64 rm.sh.lower,.int .i64 rm.sh.share,.int .i64 rm.sh.top,.int .i64 rm.recover,.int .i64 pm.deps,.slice pm.Ad pm.ds.length pm.cd,.slice pm.Ao pm.os.length pm.co,.slice pm.Ae pm.es.length pm.ce,.int .i64 ym.periods,.int .i64 ym.income,.int .i64 ym.withheld,.slice ym.Ai ym.ins.length ym.ci,.slice ym.At ym.taken.length ym.ct,.slice none 0 0,.bool false,.slice none 0 0] rfl rfl hX7 (by simp) sizeYear rfl rfl ?_; intro w8 hX8 hg8; (have zb:=hX8.cell 26); (have fzb:=hX8.frozen 26); (have lzb:=hX8.lt); (simp only [nqg,nqh,nqi] at zb)))
  obtain ⟨first,hfi⟩ : ∃ first,decide (0 < r6) = first:=⟨_,rfl⟩
  rw [hfi]
  clear hfi zb fzb lzb
  have hrg:∀ q,some g = some q→q < w.heap.size+1 ∨ q = g:=fun q e=>.inr (by injection e with e; exact e.symm)
  have hC9:=((hC6.st hX7 hg7).st hX8 hg8).put 26 (.bool first)
  simp only [List.setIfInBounds_toArray,List.set_cons_succ,List.set_cons_zero] at hC9
  have hN9:=((hN6.grown hg7 hrg).grown hg8 hrg).off 26 (.bool first)
  have hP9:=((hP6.grown hg7 hrg).grown hg8 hrg).off 26 (.bool first)
  have hY9:=((hY6.grown hg7 hrg).grown hg8 hrg).off 26 (.bool first)
  clear hC6 hX6 hX7 hX8 hg7 hg8 hN6 hP6 hY6 hrg
  generalize w8.setCell ⟨g,26,none⟩ (.bool first) = w9 at *
  go_wp2_with fail
  refine (next_any b (M+110+1+700+60+1) 3 _ (by omega) (by omega) (by omega) hC9.2.2.1).mono ?_
  rintro e w10 ⟨r10,rfl,ha10,hb10,hd10,hg10⟩
  have hC10:=hC9.deck hd10 hg10
  have hN10:=hN9.grown hg10 (fun q e=>.inl (by injection e; omega))
  have hP10:=hP9.grown hg10 (fun q e=>.inl (by injection e; omega))
  have hY10:=hY9.grown hg10 (fun q e=>.inl (by injection e; omega))
  clear hC9 hN9 hP9 hY9 hg10 hd10
  by_cases h10:r10 = 0
  ·
   subst h10
   as_aux_lemma =>
    go_wp2_with fail
    refine (small_any b (M+110+1+700+60+1+1) _ (by omega) hC10.2.2.1).mono ?_
    rintro e w11 ⟨r11,rfl,ha11,hb11,hd11,hg11⟩
    have hC11:=hC10.deck hd11 hg11
    have hN11:=hN10.grown hg11 (fun q e=>.inl (by injection e; omega))
    have hP11:=hP10.grown hg11 (fun q e=>.inl (by injection e; omega))
    have hY11:=hY10.grown hg11 (fun q e=>.inl (by injection e; omega))
    have hl11:=hC11.1.lt
    have hz11:=hC11.2.2.2.1.size
    have esz:(w11.setCell ⟨g,25,none⟩ (.slice (some ⟨w11.heap.size,0,none⟩) 1 1)).heap.size = w11.heap.size:=by simp [World.setCell]
    have hS13:=SliceOf.new encE_len (w11.setCell ⟨g,25,none⟩ (.slice (some ⟨w11.heap.size,0,none⟩) 1 1)) [⟨cCity,r11⟩] #[.string ⟨#[99,105,116,121]⟩,.int .i64 r11] 69 rfl
    rw [esz] at hS13
    have z:=hC11.1.cell 25
    have fz:=hC11.1.frozen 25
    simp only [nqg,nqh,nqi] at z
    have hC12:=hC11.put 25 (.slice (some ⟨w11.heap.size,0,none⟩) 1 1)
    simp only [List.setIfInBounds_toArray,List.set_cons_succ,List.set_cons_zero] at hC12
    have hC13:=hC12.alloc (.cells #[.string ⟨#[99,105,116,121]⟩,.int .i64 r11] 69)
    have hN13:=(hN11.off 25 (.slice (some ⟨w11.heap.size,0,none⟩) 1 1)).grown (row:=none) (only_alloc (only_refl _ _) (.cells #[.string ⟨#[99,105,116,121]⟩,.int .i64 r11] 69)) (fun q e=>by cases e)
    have hP13:=(hP11.off 25 (.slice (some ⟨w11.heap.size,0,none⟩) 1 1)).grown (row:=none) (only_alloc (only_refl _ _) (.cells #[.string ⟨#[99,105,116,121]⟩,.int .i64 r11] 69)) (fun q e=>by cases e)
    have hY13:=(hY11.off 25 (.slice (some ⟨w11.heap.size,0,none⟩) 1 1)).grown (row:=none) (only_alloc (only_refl _ _) (.cells #[.string ⟨#[99,105,116,121]⟩,.int .i64 r11] 69)) (fun q e=>by cases e)
    have hK13:FrN encE 2 ((w11.setCell ⟨g,25,none⟩ (.slice (some ⟨w11.heap.size,0,none⟩) 1 1)).alloc (.cells #[.string ⟨#[99,105,116,121]⟩,.int .i64 r11] 69)) (w.heap.size+1) g (some ⟨w11.heap.size,0,none⟩) [⟨cCity,r11⟩] :=
     ⟨hS13.more (by rw [World.size_alloc,esz]; omega),fun a ha=>by injection ha with ha; subst ha; show w.heap.size+1≤w11.heap.size; omega,fun _ a ha=>by injection ha with ha; subst ha; show w11.heap.size ≠ g; omega⟩
    clear hC10 hN10 hP10 hY10 hN11 hP11 hY11 hd11 hg11 hz11 hS13 esz hC12
    go_upto_region 6 with fail
    clear z fz hC11 hl11
    generalize (w11.setCell ⟨g,25,none⟩ (.slice (some ⟨w11.heap.size,0,none⟩) 1 1)).alloc (.cells #[.string ⟨#[99,105,116,121]⟩,.int .i64 r11] 69) = w13 at *
    have x0:=hC13.1.cell 0
    have l1:=hC13.1.lt
    have lb:=hC13.2.2.1.lt
    simp only [nqg,nqh] at x0
    go_wp2_with fail
    refine (elements_any b (M+110+1+700+60+1+1+2) rm.Aw rm.ws rm.cw 5 _ (by omega) (by omega) (by omega) hC13.2.2.1 hN13.ws.sl (fun a ha=>by have:=hN13.ws.fr a ha; have:=hC13.2.2.2.2.2; omega) (by have:=HRG.out.ws.len; omega)).mono ?_
    rintro e w21 ⟨v21,es,rfl,heg,hel,hoe,hd21,hg21⟩
    have hec:∀ A c,v21 = .slice A es.length c→es.length≤c:=by intro A c h; obtain ⟨_,c2,h2,_,_,h3,_⟩:=hoe.form2 encE_len; rw [h2] at h; injection h with _ _ e; omega
    obtain ⟨E,ec,rfl,hE21'⟩:=hoe.fresh encE_len
    have HEC:=Lib.hid (hec _ _ rfl)
    clear hec
    have HEG:=Lib.hid (And.intro heg hel)
    have hE21:=hE21'.toN2 (base:=w.heap.size+1) (g:=g) (by have:=hC13.2.2.2.1.size; have:=hC13.2.2.2.2.1; omega) l1
    have hC21:=hC13.deck hd21 hg21
    have hbw:=hC13.2.2.2.2.2
    have hN21:=hN13.grown hg21 (fun q e=>.inl (by injection e; omega))
    have hP21:=hP13.grown hg21 (fun q e=>.inl (by injection e; omega))
    have hY21:=hY13.grown hg21 (fun q e=>.inl (by injection e; omega))
    have hK21:=hK13.grown hg21 (fun q e=>.inl (by injection e; omega))
    clear heg hel hoe hE21' x0 l1 lb hC13 hN13 hP13 hY13 hK13 hd21 hg21
    have z:=hC21.1.cell 27
    have fz:=hC21.1.frozen 27
    have lg:=hC21.1.lt
    simp only [nqg,nqh,nqi] at z
    have hC22:=hC21.put 27 (.slice E es.length ec)
    simp only [List.setIfInBounds_toArray,List.set_cons_succ,List.set_cons_zero] at hC22
    have hN22:=hN21.off 27 (.slice E es.length ec)
    have hP22:=hP21.off 27 (.slice E es.length ec)
    have hY22:=hY21.off 27 (.slice E es.length ec)
    have hK22:=hK21.off 27 (.slice E es.length ec)
    have hE22:=hE21.off 27 (.slice E es.length ec)
    go_upto_region 7 with fail
    clear z fz lg hC21 hN21 hP21 hY21 hK21 hE21
    generalize w21.setCell ⟨g,27,none⟩ (.slice E es.length ec) = w22 at *
    obtain ⟨hX22,hR22,hd22,hG22,hwg,hbw2⟩:=hC22
    go_wp2_with (first | (refine wpList_load_blk rfl _ _ rfl g rfl hX22 Tryz.underlying55 rfl sizeCase ?_) | (refine wpList_store_blk rfl _ _ _ rfl rfl w.heap.size rfl rfl hR22 rfl sizeCase rfl ?_; intro w23 hR23 hg23))
    refine bodyPost_ret (v:=.agg #[.slice rm.Aw rm.ws.length rm.cw,.slice rm.As rm.ss.length rm.cs,.int .i64 rm.tm.t.method,.slice rm.tm.Ab rm.tm.t.brs.length rm.tm.cb,.int .i64 rm.tm.t.allowance,.int .i64 rm.tm.t.credit,.int .i64 rm.tm.t.unit,.int .i64 rm.tm.t.mode,.slice rm.tm.Ar rm.tm.t.rows.length rm.tm.cr,.int .i64 rm.count,.int .i64 rm.sh.fixed,.int .i64 rm.sh.dependent,.int .i64 rm.sh.lower,.int .i64 rm.sh.share,.int .i64 rm.sh.top,.int .i64 rm.recover,.int .i64 pm.deps,.slice pm.Ad pm.ds.length pm.cd,.slice pm.Ao pm.os.length pm.co,.slice pm.Ae pm.es.length pm.ce,.int .i64 ym.periods,.int .i64 ym.income,.int .i64 ym.withheld,.slice ym.Ai ym.ins.length ym.ci,.slice ym.At ym.taken.length ym.ct,.slice (some ⟨w11.heap.size,0,none⟩) 1 1,.bool first,.slice E es.length ec]) (results_blk rfl rfl hR23 Tryz.underlying55 rfl sizeCase) rfl ?_
    have hrr:∀ q,some w.heap.size = some q→q < w.heap.size+1 ∨ q = g:=fun q e=>.inl (by injection e; omega)
    have hN23:=hN22.grown hg23 hrr
    have hP23:=hP22.grown hg23 hrr
    have hY23:=hY22.grown hg23 hrr
    have hK23:=hK22.grown hg23 hrr
    have hE23:=hE22.grown hg23 hrr
    exact ⟨rm,pm,ym,(some ⟨w11.heap.size,0,none⟩),1,[⟨cCity,r11⟩],first,E,ec,es,rfl,⟨HRG.out,⟨k,hk3,hkc,HPG.out,HYG.out⟩,.inr ⟨r11,ha11,hb11,rfl⟩,HEG.out⟩,⟨HMI.out,HEC.out⟩,hN23.in_,hP23.in_,hY23.in_,hK23.sl,hE23.sl,(hd22.grown hg23 (fun q e=>by injection e; omega)).mono (by omega),only_then hG22 hg23 (fun q e=>.inl (by injection e; omega))⟩
  ·
   as_aux_lemma =>
    have h10':(r10 == 0) = false:=by simpa using h10
    clear h10
    have hK10:FrN encE 2 w10 (w.heap.size+1) g none ([] : List Elem):=⟨SliceOf.nil_,by simp,by simp⟩
    go_upto_region 6 with fail
    have x0:=hC10.1.cell 0
    have l1:=hC10.1.lt
    have lb:=hC10.2.2.1.lt
    simp only [nqg,nqh] at x0
    go_wp2_with fail
    refine (elements_any b (M+110+1+700+60+1+1) rm.Aw rm.ws rm.cw 5 _ (by omega) (by omega) (by omega) hC10.2.2.1 hN10.ws.sl (fun a ha=>by have:=hN10.ws.fr a ha; have:=hC10.2.2.2.2.2; omega) (by have:=HRG.out.ws.len; omega)).mono ?_
    rintro e w21 ⟨v21,es,rfl,heg,hel,hoe,hd21,hg21⟩
    have hec:∀ A c,v21 = .slice A es.length c→es.length≤c:=by intro A c h; obtain ⟨_,c2,h2,_,_,h3,_⟩:=hoe.form2 encE_len; rw [h2] at h; injection h with _ _ e; omega
    obtain ⟨E,ec,rfl,hE21'⟩:=hoe.fresh encE_len
    have HEC:=Lib.hid (hec _ _ rfl)
    clear hec
    have HEG:=Lib.hid (And.intro heg hel)
    have hE21:=hE21'.toN2 (base:=w.heap.size+1) (g:=g) (by have:=hC10.2.2.2.1.size; have:=hC10.2.2.2.2.1; omega) l1
    have hC21:=hC10.deck hd21 hg21
    have hbw:=hC10.2.2.2.2.2
    have hN21:=hN10.grown hg21 (fun q e=>.inl (by injection e; omega))
    have hP21:=hP10.grown hg21 (fun q e=>.inl (by injection e; omega))
    have hY21:=hY10.grown hg21 (fun q e=>.inl (by injection e; omega))
    have hK21:=hK10.grown hg21 (fun q e=>.inl (by injection e; omega))
    clear heg hel hoe hE21' x0 l1 lb hC10 hN10 hP10 hY10 hK10 hd21 hg21
    have z:=hC21.1.cell 27
    have fz:=hC21.1.frozen 27
    have lg:=hC21.1.lt
    simp only [nqg,nqh,nqi] at z
    have hC22:=hC21.put 27 (.slice E es.length ec)
    simp only [List.setIfInBounds_toArray,List.set_cons_succ,List.set_cons_zero] at hC22
    have hN22:=hN21.off 27 (.slice E es.length ec)
    have hP22:=hP21.off 27 (.slice E es.length ec)
    have hY22:=hY21.off 27 (.slice E es.length ec)
    have hK22:=hK21.off 27 (.slice E es.length ec)
    have hE22:=hE21.off 27 (.slice E es.length ec)
    go_upto_region 7 with fail
    clear z fz lg hC21 hN21 hP21 hY21 hK21 hE21
    generalize w21.setCell ⟨g,27,none⟩ (.slice E es.length ec) = w22 at *
    obtain ⟨hX22,hR22,hd22,hG22,hwg,hbw2⟩:=hC22
    go_wp2_with (first | (refine wpList_load_blk rfl _ _ rfl g rfl hX22 Tryz.underlying55 rfl sizeCase ?_) | (refine wpList_store_blk rfl _ _ _ rfl rfl w.heap.size rfl rfl hR22 rfl sizeCase rfl ?_; intro w23 hR23 hg23))
    refine bodyPost_ret (v:=.agg #[.slice rm.Aw rm.ws.length rm.cw,.slice rm.As rm.ss.length rm.cs,.int .i64 rm.tm.t.method,.slice rm.tm.Ab rm.tm.t.brs.length rm.tm.cb,.int .i64 rm.tm.t.allowance,.int .i64 rm.tm.t.credit,.int .i64 rm.tm.t.unit,.int .i64 rm.tm.t.mode,.slice rm.tm.Ar rm.tm.t.rows.length rm.tm.cr,.int .i64 rm.count,.int .i64 rm.sh.fixed,.int .i64 rm.sh.dependent,.int .i64 rm.sh.lower,.int .i64 rm.sh.share,.int .i64 rm.sh.top,.int .i64 rm.recover,.int .i64 pm.deps,.slice pm.Ad pm.ds.length pm.cd,.slice pm.Ao pm.os.length pm.co,.slice pm.Ae pm.es.length pm.ce,.int .i64 ym.periods,.int .i64 ym.income,.int .i64 ym.withheld,.slice ym.Ai ym.ins.length ym.ci,.slice ym.At ym.taken.length ym.ct,.slice none 0 0,.bool first,.slice E es.length ec]) (results_blk rfl rfl hR23 Tryz.underlying55 rfl sizeCase) rfl ?_
    have hrr:∀ q,some w.heap.size = some q→q < w.heap.size+1 ∨ q = g:=fun q e=>.inl (by injection e; omega)
    have hN23:=hN22.grown hg23 hrr
    have hP23:=hP22.grown hg23 hrr
    have hY23:=hY22.grown hg23 hrr
    have hK23:=hK22.grown hg23 hrr
    have hE23:=hE22.grown hg23 hrr
    exact ⟨rm,pm,ym,none,0,[],first,E,ec,es,rfl,⟨HRG.out,⟨k,hk3,hkc,HPG.out,HYG.out⟩,.inl rfl,HEG.out⟩,⟨HMI.out,HEC.out⟩,hN23.in_,hP23.in_,hY23.in_,hK23.sl,hE23.sl,(hd22.grown hg23 (fun q e=>by injection e; omega)).mono (by omega),only_then hG22 hg23 (fun q e=>.inl (by injection e; omega))⟩
end Go.Proofs.YtlhkojcmcmkmaaaGreat
