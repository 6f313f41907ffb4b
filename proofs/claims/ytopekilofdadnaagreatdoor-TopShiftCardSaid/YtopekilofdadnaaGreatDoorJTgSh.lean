/- Joined texts: TgSh TgSi. Conditions: as stated. -/
import Derived.Test.YtopekilofdadnaaGreatDoorJTgMi
namespace Go.Proofs.YtopekilofdadnaaGreatDoor
open Go.RowKit Go.Sort Go.Shelf
def SlB {α:Type} (enc:α→List Value) (k:Nat) (w:World) (lo hi : Nat) (A:Option Addr) (xs:List α) : Prop:=SliceOf enc k w hi A xs∧∀ a,A = some a→lo≤a.block
section
variable {α:Type} {enc:α→List Value} {k:Nat} {w w':World} {lo hi q:Nat} {A:Option Addr} {xs:List α}
theorem SlB.grown (h:SlB enc k w lo hi A xs) (hg:w.grownBy w' (some q)) (hB:hi≤w.heap.size) (hq:q < lo ∨ hi≤q) : SlB enc k w' lo hi A xs :=
 ⟨fun hne=>by
  obtain ⟨c,off,e,hb,hc⟩:=h.1 hne
  have h2:lo≤c:=h.2 _ e
  exact ⟨c,off,e,hb,fun i x hi j v hj=>(World.cell?_of_block (hg.block c (by omega) (fun e=>by injection e; omega))).trans (hc i x hi j v hj)⟩,h.2⟩
theorem SlB.below (h:SlB enc k w lo hi A xs) (hb:Below w.heap.size w w') (hB:hi≤w.heap.size) : SlB enc k w' lo hi A xs:=⟨h.1.below (hb.mono hB),h.2⟩
theorem SlB.sl (h:SlB enc k w lo hi A xs) (hB:hi≤w.heap.size) : SliceOf enc k w w.heap.size A xs:=h.1.more hB
end
theorem Own.slB {α:Type} {enc:α→List Value} {k:Nat} {e:TypeId} {w:World} {base n c : Nat} {A:Option Addr} {xs:List α} (h:Own enc k e w base (.slice A n c) xs) (hk : ∀ x,(enc x).length = k) : SlB enc k w base w.heap.size A xs:=by
 obtain ⟨A',c',hv,hs,hb,_⟩:=h.form hk
 injection hv with e1 e2 e3
 subst e1
 exact ⟨hs,hb⟩
structure TsAt (w0 w : World) (b g1 g2 g5 : Nat) (z:ZoneM) (s:ShiftT) (EA:Option Addr) (l:List EvT) (BA:Option Addr) (cs:Array Value) : Prop where
 zb:Blk w g1 27 #[.int .i64 z.off,.slice z.A z.ch.length z.c]
 sb:Blk w g2 32 #[.int .i64 s.day,.int .i64 s.start,.int .i64 s.min]
 rb:Blk w g5 52 cs
 zs:SlB encCh 2 w (b+1) g5 z.A z.ch
 es:SlB encEv 7 w (b+1) g5 EA l
 bs:SlB encBd 2 w (b+1) g5 BA [⟨sOt1,480⟩]
 tape:TapeIn w b
 bel:Below w0.heap.size w0 w
 ord:w0.heap.size≤b∧b < g1∧g1 < g2∧g2 < g5∧g5 < w.heap.size
section
variable {w0 w w':World} {b g1 g2 g5:Nat} {z:ZoneM} {s:ShiftT} {EA BA:Option Addr} {l:List EvT} {cs cs':Array Value}
theorem TsAt.adv (h:TsAt w0 w b g1 g2 g5 z s EA l BA cs) (hb:Below w.heap.size w w') : TsAt w0 w' b g1 g2 g5 z s EA l BA cs:=by
 have ho:=h.ord
 have hs:=hb.size
 exact ⟨h.zb.adv hb,h.sb.adv hb,h.rb.adv hb,h.zs.below hb (by omega),h.es.below hb (by omega),h.bs.below hb (by omega),h.tape.grown (only_of_below hb none) (fun q e=>by cases e),bel_adv h.bel hb,by omega⟩
theorem TsAt.alloc (h:TsAt w0 w b g1 g2 g5 z s EA l BA cs) (o:Obj) : TsAt w0 (w.alloc o) b g1 g2 g5 z s EA l BA cs:=h.adv (below_new w o)
theorem TsAt.next (h:TsAt w0 w b g1 g2 g5 z s EA l BA cs) (ht:TapeIn w' b) (hG:w.grownBy w' (some b)) : TsAt w0 w' b g1 g2 g5 z s EA l BA cs:=by
 have ho:=h.ord
 have hs:=hG.size
 exact ⟨h.zb.grown hG (fun e=>by injection e; omega),h.sb.grown hG (fun e=>by injection e; omega),h.rb.grown hG (fun e=>by injection e; omega),h.zs.grown hG (by omega) (by omega),h.es.grown hG (by omega) (by omega),h.bs.grown hG (by omega) (by omega),ht,bel_only h.bel hG (fun q e=>by injection e; omega),by omega⟩
theorem TsAt.put (h:TsAt w0 w b g1 g2 g5 z s EA l BA cs) (o:Nat) (vs:List Value) (hs:o+vs.length≤cs.size) (hcs : (cs.toList.take o++vs++cs.toList.drop (o+vs.length)).toArray = cs') : TsAt w0 (w.setCells g5 o vs) b g1 g2 g5 z s EA l BA cs':=by
 have ho:=h.ord
 have hG:=setCells_grown g5 vs o w
 have hz:=hG.size
 subst hcs
 exact ⟨h.zb.grown hG (fun e=>by injection e; omega),h.sb.grown hG (fun e=>by injection e; omega),setCells_off vs o h.rb hs,h.zs.grown hG (by omega) (by omega),h.es.grown hG (by omega) (by omega),h.bs.grown hG (by omega) (by omega),h.tape.grown hG (fun q e=>by injection e; omega),bel_only h.bel hG (fun q e=>by injection e; omega),by omega⟩
theorem TsAt.there (h:TsAt w0 w b g1 g2 g5 z s EA l BA cs) {o n : Nat} (hn:o+n≤cs.size) : w.there g5 o n:=fun j hj=>by
 exact ⟨by rw [h.rb.cell,Array.getElem?_eq_getElem (by omega)]; rfl,h.rb.frozen _⟩
end
theorem shift_end {z:ZoneT} (h:ZoneOk z) (hc : ∀ c ∈ z.ch,c.at_≤30000000) {s:ShiftT} (hd:0≤s.day∧s.day≤20456) (h1:0≤s.start∧s.start≤1439) (h2:s.min≤900) : begN z s+s.min≤40000000:=by
 have h3:=firstN_le (z:=z) h (l:=s.day * 1440+s.start) (X:=30000000) (by omega) (by omega) hc (by omega) (by omega)
 have h4:begN z s = firstN z (s.day * 1440+s.start):=rfl
 omega
theorem shift_plain {z:ZoneM} {s:ShiftT} {bs:BandsM} {sn f : Int} (hF:begN z.t s = f) (h0:0≤f) (hm:1≤s.min∧s.min≤900) (ht:f+s.min≤40000000) (hd:0≤s.day∧s.day≤84005) :
  spErr z.t none [s] = 0∧dutN ⟨z,900,0,0,sn,bs⟩ [s] [evOut (f+s.min),evIn f] 4 = [⟨0,s.day,[⟨⟨f,f+s.min⟩,[]⟩]⟩] ∧
  ∃ l,resN z.t (pcN ⟨z,900,0,0,sn,bs⟩ [s] [evOut (f+s.min),evIn f] 4) (anN ⟨z,900,0,0,sn,bs⟩ [evOut (f+s.min),evIn f] 4) (s.day - 3) (s.day+3) = [⟨s.day,l,[]⟩]∧sumTm l = s.min:=by
 have hsp : [s].map (spOf z.t) = [⟨f,f+s.min⟩]:=by
  show [spOf z.t s] = _
  unfold spOf
  rw [hF]
 refine ⟨?_,?_,?_⟩
 ·
  rw [spErr_cons,hF,if_neg (by omega),if_neg (by show ¬ f < 0; omega)]
  rfl
 ·
  show assignN z.t [s] ([s].map (spOf z.t)) 0 0 (pairN 900 (effN [evOut (f+s.min),evIn f] 4)).1 = _
  rw [hsp,effN_two (by omega),pairN_two (by omega) (by omega),assignN_two (by omega)]
 ·
  obtain ⟨l,h1,h2⟩:=shift_res (z:=z.t) (r:=bs.t) (s:=s) (f:=f) (t:=f+s.min) (a:=s.day - 3) (b:=s.day+3) h0 (by omega) (by omega) (by omega) hd (by omega)
  refine ⟨l,?_,by omega⟩
  show resN z.t (divN bs.t (sortedN (worksN (assignN z.t [s] ([s].map (spOf z.t)) 0 0 (pairN 900 (effN [evOut (f+s.min),evIn f] 4)).1)))) (pairN 900 (effN [evOut (f+s.min),evIn f] 4)).2 _ _ = _
  rw [hsp]
  exact h1
theorem res_bd {z:ZoneT} {pcs:List PcT} {an:List AnomT} {a b : Int} (h:PiecesOk pcs) {x:DayT} (hx:x ∈ resN z pcs an a b) : (∀ t ∈ x.times,0≤t.min)∧x.times.length≤4096:=by
 obtain ⟨d,_,rfl⟩:=List.mem_map.1 hx
 obtain ⟨h1,h2⟩:=totN_bd d pcs [] (fun p hp=>⟨(h.ok p hp).2.1,h.nm p hp⟩) (fun x hx=>by cases hx)
 have h3:=h.len
 have h2:(totN pcs d).length≤[].length+pcs.length:=h2
 refine ⟨fun t ht=>(h1 t ht).1,?_⟩
 show (totN pcs d).length≤4096
 simp only [List.length_nil] at h2
 omega
theorem evs_two {f t : Int} (h0:0≤f) (h1:f≤t) (ht:t≤120968639) : EvsOk [evOut t,evIn f]:=by
 refine ⟨by simp,fun x hx=>?_,by simp [evOut,evIn]⟩
 simp only [nqj,nqk,or_false] at hx
 rcases hx with rfl | rfl
 ·
  exact ⟨⟨(by show (0:Int)≤0; omega),(by show (0:Int)≤65535; omega)⟩,⟨(by show (0:Int)≤2; omega),(by show (2:Int)≤2147483647; omega)⟩,⟨(by show (1:Int)≤4; omega),(by show (4:Int)≤2147483647; omega)⟩,(by show 0≤t∧t≤120968639; omega),⟨(by show (1:Int)≤2; omega),(by show (2:Int)≤6; omega)⟩,fun _=>rfl,fun h5=>by exfalso; have h5:(5:Int)≤2:=h5; omega⟩
 ·
  exact ⟨⟨(by show (0:Int)≤0; omega),(by show (0:Int)≤65535; omega)⟩,⟨(by show (0:Int)≤1; omega),(by show (1:Int)≤2147483647; omega)⟩,⟨(by show (1:Int)≤4; omega),(by show (4:Int)≤2147483647; omega)⟩,(by show 0≤f∧f≤120968639; omega),⟨(by show (1:Int)≤1; omega),(by show (1:Int)≤6; omega)⟩,fun _=>rfl,fun h5=>by exfalso; have h5:(5:Int)≤1:=h5; omega⟩
theorem shift_in {w:World} {z:ZoneM} {s:ShiftT} {BA EA PA : Option Addr} {sn f : Int} (hz:ZoneOk z.t) (hs:ShiftOk s) (hF:begN z.t s = f) (h0:0≤f) (hm:1≤s.min∧s.min≤900) (ht:f+s.min≤40000000) (hsn:0≤sn∧sn≤120)
  (zs:SliceOf encCh 2 w w.heap.size z.A z.ch) (es:SliceOf encEv 7 w w.heap.size EA [evOut (f+s.min),evIn f]) (bs:SliceOf encBd 2 w w.heap.size BA [⟨sOt1,480⟩]) (ps:SliceOf encSf 3 w w.heap.size PA [s]) :
  EvIn w ⟨z,900,0,0,sn,⟨sNormal,BA,1,[⟨sOt1,480⟩],none,0,[]⟩⟩ PA [s] EA [evOut (f+s.min),evIn f] 4:=by
 obtain ⟨q1,q2,_⟩:=shift_plain (sn:=sn) (bs:=⟨sNormal,BA,1,[⟨sOt1,480⟩],none,0,[]⟩) hF h0 hm ht hs.d
 refine (evIn_of (r:=⟨z,900,0,0,sn,⟨sNormal,BA,1,[⟨sOt1,480⟩],none,0,[]⟩⟩) ?_ ps (fun x hx=>by rw [List.mem_singleton] at hx; rw [hx]; exact hs) (by simp) es (evs_two h0 (by omega) (by omega)) (by show (900:Int)≤900; omega) (by simp [evOut,evIn]) (by simp [evOut,evIn]) ?_).1
 ·
  exact ⟨zs,hz,⟨.inl rfl,by show 1≤16; omega,by show 0≤16; omega,⟨(by show (-1:Int) < 480; omega),(by show (480:Int)≤10080; omega),.inr (.inl rfl),trivial⟩,trivial,bs,SliceOf.nil_⟩,(by show (1:Int)≤900∧(900:Int)≤10080; omega),(by show (0:Int)≤0∧(0:Int)≤1440; omega),(by show (0:Int)≤0∧(0:Int)≤1440; omega),hsn⟩
 ·
  intro _ x hx _ p hp
  rw [q2,List.mem_singleton] at hx
  subst hx
  have hp:p ∈ [(⟨⟨f,f+s.min⟩,[]⟩ : PresT)]:=hp
  rw [List.mem_singleton] at hp
  subst hp
  have hpl:planOf z.t [s] 0 = ⟨f,f+s.min⟩:=by
   show spOf z.t s = _
   unfold spOf
   rw [hF]
  show (nearB f (planOf z.t [s] 0).f sn→(planOf z.t [s] 0).f = f)∧(nearB (f+s.min) (planOf z.t [s] 0).t sn→(planOf z.t [s] 0).t = f+s.min)
  rw [hpl]
  exact ⟨fun _=>rfl,fun _=>rfl⟩
end Go.Proofs.YtopekilofdadnaaGreatDoor
namespace Go.Proofs.YtopekilofdadnaaGreatDoor
open Go.RowKit Go.Sort Go.Shelf
section
set_option maxHeartbeats 8000000
set_option maxRecDepth 100000
theorem sheetT2 (w:World) : Calls Tryz.prog 10 #[] w fun e w'=>∃ A,e = .returned (.agg #[.int .i64 0,.slice none 0 0,.int .i64 900,.int .i64 0,.int .i64 0,.int .i64 0,.int .i64 0,.int .i64 0,.slice none 0 0,.string sNormal,.slice A 1 1,.slice none 0 0,.slice none 0 0,.slice none 0 0])∧SliceOf encBd 2 w' w'.heap.size A [⟨sOt1,480⟩]∧Below w.heap.size w w'∧∀ a,A = some a→w.heap.size≤a.block :=
 (sheetT w).mono fun e w' h=>by
  obtain ⟨A,rfl,h1,h2,h3⟩:=h
  exact ⟨A,rfl,h1,h2,h3⟩
theorem shift_walk (A:Option Addr) (c:Nat) (L:List Int) (start minutes : Int) (w:World) (hS:SliceOf encI 1 w w.heap.size A L) (hl:L.length≤9223372036854775807) (h5 : ∀ x ∈ L,I64 x) (hL:Lens w) :
  Calls Tryz.prog 3 #[.slice A L.length c,.int .i64 start,.int .i64 minutes] w fun e w'=>e = .returned (.bool true)∧Below w.heap.size w w':=by
 go_enter Tryz.func3,Tryz.ntmps3
 go_wp2_with fail
 refine (newT A L c w hS hl h5).mono ?_
 rintro e w1 ⟨rfl,hd1,hb1⟩
 have hlt:=hd1.lt
 have HB1:=Lib.hid hb1
 have HLW:=Lib.hid hL
 generalize hb:w.heap.size = b at *
 have HW:=Lib.hid hb
 clear hS hl h5 hL hb1 hb
 go_wp2_with fail
 refine (zoneG2 b w1 hd1).mono ?_
 rintro e w2 ⟨zo,ZA,zc,zl,rfl,hzo,hzc,hoz,hd2,hg2⟩
 have hs2:=hg2.size
 have hB3:=Blk.new w2 27 #[.int .i64 zo,.slice ZA zl.length zc]
 have hbel3:=below_new w2 (.cells #[.int .i64 zo,.slice ZA zl.length zc] 27)
 have hb1':=HB1.out
 rw [← HW.out] at hb1'
 have HBW3:Hid (Below w.heap.size w (w2.alloc (.cells #[.int .i64 zo,.slice ZA zl.length zc] 27))):=bel_adv (bel_only hb1' hg2 (fun q e=>by injection e with e; have:=HW.out; omega)) hbel3
 have hd3:=hd2.alloc (.cells #[.int .i64 zo,.slice ZA zl.length zc] 27)
 have hz3:=((hoz.slB encCh_len).below hbel3 (Nat.le_refl _))
 have HZO:=Lib.hid hzo
 have HZC:=Lib.hid hzc
 have hlt2:b < w2.heap.size:=by omega
 clear hzo hzc hd1 hd2 hoz hg2 hbel3 hb1' HB1
 go_upto_region 3 with fail
 have hg13:w2.heap.size < (w2.alloc (Obj.cells #[.int .i64 zo,.slice ZA zl.length zc] 27)).heap.size:=by simp
 generalize w2.alloc (Obj.cells _ _) = w3 at hB3 HBW3 hd3 hz3 hg13 ⊢
 have hz3:=(show SlB encCh 2 w3 (b+1) w2.heap.size ZA zl from ⟨hz3.1,fun a e=>by have:=hz3.2 a e; omega⟩)
 generalize w2.heap.size = g1 at *
 clear hs2
 go_wp2_with fail
 refine (nextT b 3 w3 (by omega) (by omega) hd3).mono ?_
 rintro e w4 ⟨r,rfl,r0,r1,hd4,hg4⟩
 have hs4:=hg4.size
 have hB4:=hB3.grown hg4 (fun e=>by injection e; omega)
 have hz4:=hz3.grown hg4 (by omega) (by omega)
 have HBW4:Hid (Below w.heap.size w w4):=bel_only HBW3.out hg4 (fun q e=>by injection e with e; have:=HW.out; omega)
 clear hB3 hz3 HBW3 hd3 hg4
 go_wp2_with fail
 refine (modT start 1440 w4 (by omega) (by omega)).mono ?_
 rintro e w5 ⟨rfl,rfl⟩
 go_wp2_with fail
 refine (modT minutes 900 w4 (by omega) (by omega)).mono ?_
 rintro e w5 ⟨rfl,rfl⟩
 have hst:0≤start % 1440∧start % 1440 < 1440:=⟨Int.emod_nonneg _ (by omega),Int.emod_lt_of_pos _ (by omega)⟩
 have hmn:0≤minutes % 900∧minutes % 900 < 900:=⟨Int.emod_nonneg _ (by omega),Int.emod_lt_of_pos _ (by omega)⟩
 generalize start % 1440 = st at *
 generalize minutes % 900 = mn at *
 have hsok:ShiftOk ⟨20454+r,st,1+mn⟩:=⟨by show 0≤20454+r∧20454+r≤84005; omega,by show 0≤st∧st≤1439; omega,by show 1≤1+mn∧1+mn≤1440; omega⟩
 have hend:=shift_end HZO.out HZC.out (s:=⟨20454+r,st,1+mn⟩) (by show 0≤20454+r∧20454+r≤20456; omega) (by show 0≤st∧st≤1439; omega) (by show 1+mn≤900; omega)
 have HSOK:=Lib.hid hsok
 have HEND:=Lib.hid hend
 have hB5:=Blk.new w4 32 #[.int .i64 (20454+r),.int .i64 st,.int .i64 (1+mn)]
 have hbel5:=below_new w4 (.cells #[.int .i64 (20454+r),.int .i64 st,.int .i64 (1+mn)] 32)
 clear hsok hend
 go_upto_region 4 with fail
 have hsz5:w4.heap.size < (w4.alloc (Obj.cells #[.int .i64 (20454+r),.int .i64 st,.int .i64 (1+mn)] 32)).heap.size:=by simp
 generalize w4.alloc (Obj.cells _ _) = w5 at hB5 hbel5 hsz5 ⊢
 have hC5:=hB4.adv hbel5
 have hz5:=hz4.below hbel5 (by omega)
 have hd5:=hd4.grown (only_of_below hbel5 none) (fun q e=>by cases e)
 have HBW5:=Lib.hid (bel_adv HBW4.out hbel5)
 have hlt4:g1 < w4.heap.size:=by omega
 clear hB4 hz4 hd4 HBW4 hbel5
 generalize w4.heap.size = g2 at *
 clear hs4
 have HC5:=Lib.hid hC5
 have HB5:=Lib.hid hB5
 have hcl:=hC5.lt
 have hbl:=hB5.lt
 have x0:=hC5.cell 0
 have x1:=hC5.cell 1
 simp only [nqg,nqh,nqi] at x0 x1
 have y0:=hB5.cell 0
 have y1:=hB5.cell 1
 have y2:=hB5.cell 2
 simp only [nqg,nqh,nqi] at y0 y1 y2
 clear hC5 hB5
 go_wp2_with fail
 refine (spanE ⟨zo,ZA,zc,zl⟩ ⟨20454+r,st,1+mn⟩ w5 HZO.out (hz5.sl (by omega)) HSOK.out).mono ?_
 rintro e w6 ⟨hb6,hcase⟩
 have hfb:=firstN_bd HZO.out (20454 * 1440+r * 1440+st)
 have hff:begN (ZoneM.mk zo ZA zc zl).t ⟨20454+r,st,1+mn⟩ = firstN (ZoneM.mk zo ZA zc zl).t (20454 * 1440+r * 1440+st):=by
  show firstN _ ((20454+r) * 1440+st) = _
  congr 1
  omega
 rw [← hff] at hfb
 clear hff
 rcases hcase with ⟨hno,_⟩ | ⟨_,rfl⟩
 ·
  exfalso
  have:=HEND.out
  have hno:120968640 < begN (ZoneM.mk zo ZA zc zl).t ⟨20454+r,st,1+mn⟩+(1+mn):=hno
  omega
 have hend:=HEND.out
 show (fun e w'=>_) (Ending.returned (.tuple #[.agg #[.int .i64 (begN (ZoneM.mk zo ZA zc zl).t ⟨20454+r,st,1+mn⟩),.int .i64 (begN (ZoneM.mk zo ZA zc zl).t ⟨20454+r,st,1+mn⟩+(1+mn))],.int .i64 0])) w6
 generalize hF:begN (ZoneM.mk zo ZA zc zl).t ⟨20454+r,st,1+mn⟩ = f at *
 have HF:=Lib.hid hF
 have hC6:=Lib.hid (HC5.out.adv hb6)
 have hB6:=Lib.hid (HB5.out.adv hb6)
 have hz6:=hz5.below hb6 (by omega)
 have hd6:=hd5.grown (only_of_below hb6 none) (fun q e=>by cases e)
 have HBW6:=Lib.hid (bel_adv HBW5.out hb6)
 have hs6:=hb6.size
 have hB7:=Blk.new w6 34 #[.int .i64 f,.int .i64 (f+(1+mn))]
 have hbel7:=below_new w6 (.cells #[.int .i64 f,.int .i64 (f+(1+mn))] 34)
 clear hF HC5 HB5 hz5 hd5 HBW5 hb6 x0 x1 y0 y1 y2
 go_upto_region 5 with fail
 have hsz7:w6.heap.size < (w6.alloc (Obj.cells #[.int .i64 f,.int .i64 (f+(1+mn))] 34)).heap.size:=by simp
 generalize w6.alloc (Obj.cells _ _) = w7 at hB7 hbel7 hsz7 ⊢
 have hC7:=Lib.hid (hC6.out.adv hbel7)
 have hD7:=Lib.hid (hB6.out.adv hbel7)
 have hz7:=hz6.below hbel7 (by omega)
 have hd7:=hd6.grown (only_of_below hbel7 none) (fun q e=>by cases e)
 have HBW7:=Lib.hid (bel_adv HBW6.out hbel7)
 have hlt6:g2 < w6.heap.size:=by omega
 clear hC6 hB6 hz6 hd6 HBW6 hbel7
 generalize w6.heap.size = g3 at *
 have hil:=hB7.lt
 have x0:=hB7.cell 0
 have x1:=hB7.cell 1
 simp only [nqg,nqh,nqi] at x0 x1
 clear hB7 hs6
 have hbel8:=below_new w7 (.cells #[.int .i64 0,.int .i64 2,.int .i64 4,.int .i64 (f+(1+mn)),.int .i64 2,.int .i64 0,.int .i64 0,.int .i64 0,.int .i64 1,.int .i64 4,.int .i64 f,.int .i64 1,.int .i64 0,.int .i64 0] 41)
 have hes8:SlB encEv 7 (w7.alloc (.cells #[.int .i64 0,.int .i64 2,.int .i64 4,.int .i64 (f+(1+mn)),.int .i64 2,.int .i64 0,.int .i64 0,.int .i64 0,.int .i64 1,.int .i64 4,.int .i64 f,.int .i64 1,.int .i64 0,.int .i64 0] 41)) (b+1) (w7.heap.size+1) (some ⟨w7.heap.size,0,none⟩) [evOut (f+(1+mn)),evIn f] :=
  ⟨SliceOf.new encEv_len w7 [evOut (f+(1+mn)),evIn f] _ 41 rfl,fun a e=>by injection e with e; subst e; show b+1≤w7.heap.size; omega⟩
 go_upto_region 8 with fail
 have hsz8:(w7.alloc (.cells #[.int .i64 0,.int .i64 2,.int .i64 4,.int .i64 (f+(1+mn)),.int .i64 2,.int .i64 0,.int .i64 0,.int .i64 0,.int .i64 1,.int .i64 4,.int .i64 f,.int .i64 1,.int .i64 0,.int .i64 0] 41)).heap.size = w7.heap.size+1:=by simp
 generalize w7.alloc (Obj.cells _ _) = w8 at hbel8 hes8 hsz8 ⊢
 have hC8:=Lib.hid (hC7.out.adv hbel8)
 have hD8:=Lib.hid (hD7.out.adv hbel8)
 have hz8:=hz7.below hbel8 (by omega)
 have hd8:=hd7.grown (only_of_below hbel8 none) (fun q e=>by cases e)
 have HBW8:=Lib.hid (bel_adv HBW7.out hbel8)
 clear hC7 hD7 hz7 hd7 HBW7 hbel8 x0 x1
 generalize w7.heap.size = g4 at *
 go_wp2_with fail
 refine (sheetT2 w8).mono ?_
 rintro e w9 ⟨BA,rfl,hbs,hb9,hba⟩
 have hs9:=hb9.size
 have hT9:SlB encBd 2 w9 (b+1) w9.heap.size BA [⟨sOt1,480⟩]:=⟨hbs,fun a e=>by have:=hba a e; omega⟩
 have hzz:SlB encCh 2 w9 (b+1) w9.heap.size ZA zl:=⟨(hz8.below hb9 (by omega)).1.more (by omega),hz8.2⟩
 have hee:SlB encEv 7 w9 (b+1) w9.heap.size (some ⟨g4,0,none⟩) [evOut (f+(1+mn)),evIn f]:=⟨(hes8.below hb9 (by omega)).1.more (by omega),hes8.2⟩
 have hC9:=hC8.out.adv hb9
 have hD9:=hD8.out.adv hb9
 have hd9:=hd8.grown (only_of_below hb9 none) (fun q e=>by cases e)
 have HBW9:=Lib.hid (bel_adv HBW8.out hb9)
 have hbel10:=below_new w9 (.cells (rulV 0 none 0 0 900 0 0 0 sNormal BA 1 1 none 0 0) 52)
 have HT:Hid (TsAt w (w9.alloc (.cells (rulV 0 none 0 0 900 0 0 0 sNormal BA 1 1 none 0 0) 52)) b g1 g2 w9.heap.size ⟨zo,ZA,zc,zl⟩ ⟨20454+r,st,1+mn⟩ (some ⟨g4,0,none⟩) [evOut (f+(1+mn)),evIn f] BA (rulV 0 none 0 0 900 0 0 0 sNormal BA 1 1 none 0 0)) :=
  ⟨hC9.adv hbel10,hD9.adv hbel10,Blk.new _ _ _,hzz.below hbel10 (Nat.le_refl _),hee.below hbel10 (Nat.le_refl _),hT9.below hbel10 (Nat.le_refl _),hd9.grown (only_of_below hbel10 none) (fun q e=>by cases e),bel_adv HBW9.out hbel10,by have:=HW.out; omega,hlt2,by omega,by omega,by simp⟩
 simp only [rulV] at HT
 clear hbs hb9 hba hT9 hzz hee hC9 hD9 hd9 HBW9 hbel10 hC8 hD8 hz8 hes8 hd8 HBW8
 go_upto_region 9 with fail
 generalize w9.alloc (Obj.cells _ _) = w10 at HT ⊢
 generalize w9.heap.size = g5 at *
 clear hs9 hsz8 hsz7 hlt6 hil hlt4 hlt2 hbl hcl
 refine M5.wp_region_sel (C:=fun w'=>Blk w' g1 27 #[.int .i64 zo,.slice ZA zl.length zc]) (stable_blkZ _ _ _) HT.out.zb (aE:=?aE1) [0,1,5] 6 8 (by kernel_rfl) (by kernel_rfl) rfl (by kernel_rfl) (by rfl) ?H1 ?M1
 case H1 =>
  intro F hF inst
  simp only [M3.opsAt,List.getElem?_toArray,List.getElem?_cons_zero,List.getElem?_cons_succ]
  have e0:∀ p:BwC (fun w'=>Blk w' g1 27 #[.int .i64 zo,.slice ZA zl.length zc]) F,p.w'.cell? ⟨g1,0,none⟩ = some (.int .i64 zo):=fun p=>(Blk.cell p.h 0).trans rfl
  have e1:∀ p:BwC (fun w'=>Blk w' g1 27 #[.int .i64 zo,.slice ZA zl.length zc]) F,p.w'.cell? ⟨g1,1,none⟩ = some (.slice ZA zl.length zc):=fun p=>(Blk.cell p.h 1).trans rfl
  repeat (first | go_big_quiet_step (fail))
  refine wpQuiet_nil ?_
  rfl
 case M1 =>
  intro Q0 hQ0
  refine M5.mix_one 2 (by kernel_rfl) (by decide) ?_
  intro w11 hC11 hb11
  have hT11:=HT.out.adv hb11
  refine M3.mix_val (.slice (some ⟨w11.heap.size,0,none⟩) 2 2) (w11.alloc (.cells #[.int .i64 0,.int .i64 5] 3)) rfl rfl (by go_simp) ⟨hC11.alloc _,?_⟩
  simp only [Act.put,nqa,nqb,nqc,nqd,nqe,nqf]
  refine M5.mix_one 3 (by kernel_rfl) (by decide) ?_
  intro w12 hC12 hb12
  have hL12:=((SliceOf.new encIn_len w11 [0,5] #[.int .i64 0,.int .i64 5] 3 rfl).below (by simpa using hb12)).more (B':=w12.heap.size) (by simpa using hb12.size)
  have hT12:=(hT11.alloc (.cells #[.int .i64 0,.int .i64 5] 3)).adv hb12
  have ho11:=hT11.ord
  refine M3.mix_call 11 #[.pointer (some ⟨b,0,none⟩),.slice (some ⟨w11.heap.size,0,none⟩) 2 2] rfl rfl (by go_simp) ?_
  refine (pickT b w12 (some ⟨w11.heap.size,0,none⟩) [0,5] 2 hT12.tape (by simp) (by simp) hL12 (by intro a ha; injection ha with ha; subst ha; show w11.heap.size ≠ b; omega)).mono ?_
  rintro e w13 ⟨sn,rfl,hmo,hd13,hg13⟩
  have hsn:0≤sn∧sn≤120:=by simp at hmo; omega
  have hT13:=hT12.next hd13 hg13
  refine ⟨_,rfl,hT13.zb,?_⟩
  simp only [Act.put,nqa,nqb,nqc,nqd,nqe,nqf]
  clear hmo hd13 hg13 hT12 hL12 hC12 hb12 hT11 hC11 hb11 ho11
  refine M5.mix_take 4 (.agg #[.int .i64 0,.int .i64 0,.int .i64 sn,.slice none 0 0]) (by kernel_rfl) rfl (by kernel_rfl) rfl (fun _=>by go_simp) ?_
  simp only [Act.put,nqa,nqb,nqc,nqd,nqe,nqf]
  refine M5.mix_one 6 (by kernel_rfl) (by decide) ?_
  intro w14 hC14 hb14
  have hT14:=hT13.adv hb14
  have hT15:=hT14.put 0 [.int .i64 zo,.slice ZA zl.length zc] (by simp) (cs':=#[.int .i64 zo,.slice ZA zl.length zc,.int .i64 900,.int .i64 0,.int .i64 0,.int .i64 0,.int .i64 0,.int .i64 0,.slice none 0 0,.string sNormal,.slice BA 1 1,.slice none 0 0,.slice none 0 0,.slice none 0 0]) rfl
  refine M3.mix_skip (w14.setCells g5 0 [.int .i64 zo,.slice ZA zl.length zc]) rfl rfl (exec_store _ _ _ rfl g5 0 #[.int .i64 zo,.slice ZA zl.length zc] (by go_simp) (by go_simp) (hT14.there (by simp)) (by kernel_rfl) (all_oneCell_toArray (cs:=[.int .i64 zo,.slice ZA zl.length zc]) (by intro u hu; simp at hu; rcases hu with rfl | rfl <;> rfl))) ⟨hT15.zb,?_⟩
  simp only [Act.put,nqa,nqb,nqc]
  refine M5.mix_take 7 (.pointer (some ⟨g5,5,none⟩)) (by kernel_rfl) rfl (by kernel_rfl) rfl (fun _=>by go_simp) ?_
  simp only [Act.put,nqa,nqb,nqc,nqd,nqe,nqf]
  refine M5.mix_last (by kernel_rfl) (by kernel_rfl) ?_
  intro w16 hC16 hb16
  have hT16:=hT15.adv hb16
  have hT17:=Lib.hid (hT16.put 5 [.int .i64 0,.int .i64 0,.int .i64 sn,.slice none 0 0] (by simp) (cs':=rulV zo ZA zl.length zc 900 0 0 sn sNormal BA 1 1 none 0 0) rfl)
  refine M3.mix_skip (w16.setCells g5 5 [.int .i64 0,.int .i64 0,.int .i64 sn,.slice none 0 0]) rfl rfl (exec_store _ _ _ rfl g5 5 #[.int .i64 0,.int .i64 0,.int .i64 sn,.slice none 0 0] (by go_simp) (by go_simp) (hT16.there (by simp)) (by kernel_rfl) (all_oneCell_toArray (cs:=[.int .i64 0,.int .i64 0,.int .i64 sn,.slice none 0 0]) (by intro u hu; simp at hu; rcases hu with rfl | rfl | rfl <;> rfl))) ?_
  simp only [Act.put,nqa,nqb,nqc]
  refine hQ0 _ _ ?_
  generalize w16.setCells g5 5 [.int .i64 0,.int .i64 0,.int .i64 sn,.slice none 0 0] = w17 at hT17 ⊢
  clear hT16 hb16 hC16 hT15 hT14 hC14 hb14 hT13 HT hQ0
  have hmn1:1≤1+mn∧1+mn≤900:=by omega
  have hday:20454≤20454+r∧20454+r≤20456:=by omega
  have hf0:=hfb.1
  have hbel18:=below_new w17 (.cells #[.int .i64 (20454+r),.int .i64 st,.int .i64 (1+mn)] 32)
  have hT18:=hT17.out.adv hbel18
  have ho18:=hT18.ord
  have hps:=(SliceOf.new encSf_len w17 [(⟨20454+r,st,1+mn⟩ : ShiftT)] #[.int .i64 (20454+r),.int .i64 st,.int .i64 (1+mn)] 32 rfl).more (B':=(w17.alloc (.cells #[.int .i64 (20454+r),.int .i64 st,.int .i64 (1+mn)] 32)).heap.size) (by simp)
  have HEV:=Lib.hid (shift_in (sn:=sn) (z:=⟨zo,ZA,zc,zl⟩) (s:=⟨20454+r,st,1+mn⟩) HZO.out HSOK.out HF.out hf0 hmn1 hend hsn (hT18.zs.sl (by omega)) (hT18.es.sl (by omega)) (hT18.bs.sl (by omega)) hps)
  obtain ⟨hp1,hp2,hp3⟩:=shift_plain (sn:=sn) (bs:=⟨sNormal,BA,1,[⟨sOt1,480⟩],none,0,[]⟩) (z:=⟨zo,ZA,zc,zl⟩) (s:=⟨20454+r,st,1+mn⟩) HF.out hf0 hmn1 hend (by show 0≤20454+r∧20454+r≤84005; omega)
  have HP1:=Lib.hid hp1
  have HP3:=Lib.hid hp3
  have HT18:=Lib.hid hT18
  have hrb:=hT17.out.rb
  have hsb:=hT17.out.sb
  have hrl:=hrb.lt
  have hsl:=hsb.lt
  simp only [rulV] at hrb
  have x0:=hrb.cell 0
  have x1:=hrb.cell 1
  have x2:=hrb.cell 2
  have x3:=hrb.cell 3
  have x4:=hrb.cell 4
  have x5:=hrb.cell 5
  have x6:=hrb.cell 6
  have x7:=hrb.cell 7
  have x8:=hrb.cell 8
  have x9:=hrb.cell 9
  have x10:=hrb.cell 10
  have x11:=hrb.cell 11
  have x12:=hrb.cell 12
  have x13:=hrb.cell 13
  simp only [nqg,nqh,nqi] at x0 x1 x2 x3 x4 x5 x6 x7 x8 x9 x10 x11 x12 x13
  have y0:=hsb.cell 0
  have y1:=hsb.cell 1
  have y2:=hsb.cell 2
  simp only [nqg,nqh,nqi] at y0 y1 y2
  have hs17:w17.heap.size < (w17.alloc (.cells #[.int .i64 (20454+r),.int .i64 st,.int .i64 (1+mn)] 32)).heap.size:=by simp
  clear hrb hsb hp1 hp2 hp3 hps hT18 hbel18 hfb hend hst hsn ho18
  go_wp2_with fail
  refine (evalH ⟨⟨zo,ZA,zc,zl⟩,900,0,0,sn,⟨sNormal,BA,1,[⟨sOt1,480⟩],none,0,[]⟩⟩ (some ⟨w17.heap.size,0,none⟩) 1 [⟨20454+r,st,1+mn⟩] (some ⟨g4,0,none⟩) 2 [evOut (f+(1+mn)),evIn f] 4 (20454+r - 3) (20454+r+3) _ HEV.out (HLW.out.adv HT18.out.bel) (by omega) (by omega) (by omega)).mono ?_
  rintro e w19 ⟨hb19,hcase⟩
  rcases hcase with ⟨hne,_⟩ | ⟨_,RA,rc,rows,rfl,hrt,hSR,hin⟩
  ·
   exact absurd HP1.out hne
  obtain ⟨tl,hl1,hl2⟩:=HP3.out
  have hres:rows.map RowM.t = [⟨20454+r,tl,[]⟩]:=hrt.trans hl1
  have hl2:sumTm tl = 1+mn:=hl2
  obtain ⟨x,rfl⟩ : ∃ x,rows = [x]:=by
   have:=congrArg List.length hres
   rw [List.length_map] at this
   match rows,this with
   | [x],_=>exact ⟨x,rfl⟩
  have hx:x.t = ⟨20454+r,tl,[]⟩:=by simpa using hres
  obtain ⟨xd,xA,xc,xt,xB,xe,xa⟩:=x
  have hxd:xd = 20454+r:=congrArg DayT.day hx
  have hxt:xt = tl:=congrArg DayT.times hx
  have hxa:xa = []:=congrArg DayT.an hx
  subst hxd hxt hxa
  have hxin:=(hin _ (List.mem_singleton.2 rfl)).1
  have hxin:SliceOf encTm 2 w19 w19.heap.size xA xt:=hxin
  obtain ⟨q,off,rfl,hq,hc⟩:=hSR.at_ (show 0 < [(⟨20454+r,xA,xc,xt,xB,xe,[]⟩ : RowM)].length by simp)
  have c0:=hc 0 _ rfl
  have c1:=hc 1 _ rfl
  have c2:=hc 2 _ rfl
  simp only [Nat.zero_mul,Nat.add_zero,List.getElem_cons_zero] at c0 c1 c2
  have c1:w19.cell? ⟨q,off+1,none⟩ = some (.slice xA xt.length xc):=c1
  have c2:w19.cell? ⟨q,off+2,none⟩ = some (.slice xB 0 xe):=c2
  have HT19:=Lib.hid (HT18.out.adv hb19)
  have HCC:Hid (w19.cell? ⟨q,off,none⟩ = some (.int .i64 (20454+r))∧w19.cell? ⟨q,off+1,none⟩ = some (.slice xA xt.length xc)∧w19.cell? ⟨q,off+2,none⟩ = some (.slice xB 0 xe)):=⟨c0,c1,c2⟩
  have HXIN:=Lib.hid hxin
  obtain ⟨hmin,hxl⟩ : (∀ t ∈ xt,0≤t.min)∧xt.length≤4096:=res_bd (HEV.out.p HP1.out).2.1 (x:=⟨20454+r,xt,[]⟩) (by rw [hl1]; simp)
  have HMIN:=Lib.hid hmin
  have HL2:=Lib.hid hl2
  clear hc c0 c1 c2 hSR hin hrt hl1 hres hx hxin hmin hl2 hb19 HT18 HP1 HP3 HEV
  show (fun e w'=>_) (Ending.returned (.tuple #[.slice (some ⟨q,off,none⟩) 1 rc,.int .i64 0])) w19
  go_wp2
  go_loopw [16,17] (fun n i wr=>∃ k:Nat,k≤1∧i = .int .i64 k∧n = .int .i64 (if k = 0 then 0 else 1+mn)∧Below w19.heap.size w19 wr) (fun _ i _=>1 - (RowKit.intOf i).toNat)
  case atStart=>exact ⟨0,by omega,rfl,rfl,Below.refl _ _⟩
  case round =>
   obtain ⟨k,hk,rfl,rfl,hbr⟩:=hrel
   obtain ⟨z0,z1,z2⟩:=HCC.out
   have c1:=(hbr.cell (p:=⟨q,off+1,none⟩) hq).trans z1
   have hqw:q < wr.heap.size:=by have:=hbr.size; omega
   have hk2:k = 0 ∨ k = 1:=by omega
   rcases hk2 with rfl | rfl
   ·
    rw [if_pos rfl]
    have hk0:((0:Nat) : Int) < 1:=by decide
    clear c1 hqw
    go_wp2
    go_loopw [16,18] (fun n j wz=>∃ m:Nat,m≤xt.length∧j = .int .i64 m∧n = .int .i64 (sumTm (xt.take m))∧Below w19.heap.size w19 wz) (fun _ j _=>xt.length - (RowKit.intOf j).toNat)
    case atStart=>exact ⟨0,by omega,rfl,by simp [sumTm],hbr⟩
    case round =>
     clear hbr
     obtain ⟨m,hm,rfl,rfl,hbr⟩:=hrel
     have c1:=(hbr.cell (p:=⟨q,off+1,none⟩) hq).trans z1
     have hqw:q < wr.heap.size:=by have:=hbr.size; omega
     by_cases hlt:m < xt.length
     ·
      have hp1:=sumTm_pre (fun t ht=>HMIN.out t ht) m
      have hp2:=sumTm_pre (fun t ht=>HMIN.out t ht) (m+1)
      have htk:=sumTm_take xt m hlt
      have hl2:=HL2.out
      obtain ⟨q2,off2,hA2,hq2,hc⟩:=(HXIN.out.below hbr).at_ hlt
      subst hA2
      have d1:=hc 1 _ rfl
      have HTK:=Lib.hid htk
      have hmm:(m:Int) < (xt.length:Int):=by omega
      have hqw2:q2 < wr.heap.size:=by have:=hbr.size; omega
      have hb1:0≤sumTm (xt.take m)+xt[m].min∧sumTm (xt.take m)+xt[m].min≤900:=by omega
      have hb2:0≤sumTm (xt.take m)∧sumTm (xt.take m)≤900:=by omega
      clear hc hp1 hp2 htk hl2
      go_wp2
      go_roundw
      case rel=>exact ⟨m+1,by omega,by go_num,by rw [HTK.out],hbr⟩
      case measure=>simp [RowKit.intOf]; omega
     ·
      obtain rfl:m = xt.length:=by omega
      rw [List.take_length,HL2.out]
      go_wp2
      go_roundw
      case rel=>exact ⟨1,by omega,rfl,rfl,hbr⟩
      case measure=>simp [RowKit.intOf]
   ·
    rw [if_neg (by decide)]
    clear c1 hqw
    go_upto_region 19 with fail
    have hTr:=HT19.out.adv hbr
    have horr:=hTr.ord
    have hqr:q < wr.heap.size:=by have:=hbr.size; omega
    have HTR:=Lib.hid hTr
    have HBR:=Lib.hid hbr
    refine M5.wp_region_sel (C:=fun w'=>Below wr.heap.size wr w') (fun w1 w2 h hb=>bel_adv h hb) (Below.refl _ _) (aE:=?aE2) [0,1,2,3,4,5,6,7,8,9,10,11,12,13,14,15,16,17,18,19,20,21,22,23,24,25,26,27,28,29,30,31,33,34,36] 8 42 (by kernel_rfl) (by kernel_rfl) rfl (by kernel_rfl) (by rfl) ?H2 ?M2
    case H2 =>
     intro F hF inst
     have a0:=hTr.sb.cell 0
     have a1:=hTr.sb.cell 1
     have a2:=hTr.sb.cell 2
     have b0:=(hbr.cell (p:=⟨q,off,none⟩) hq).trans z0
     have b2:=(hbr.cell (p:=⟨q,off+2,none⟩) hq).trans z2
     simp only [nqg,nqh,nqi] at a0 a1 a2
     have e0:∀ p:BwC (fun w'=>Below wr.heap.size wr w') F,p.w'.cell? ⟨g2,0,none⟩ = some (.int .i64 (20454+r)):=fun p=>(Below.cell p.h (p:=⟨g2,0,none⟩) (by show g2 < _; omega)).trans a0
     have e1:∀ p:BwC (fun w'=>Below wr.heap.size wr w') F,p.w'.cell? ⟨g2,1,none⟩ = some (.int .i64 st):=fun p=>(Below.cell p.h (p:=⟨g2,1,none⟩) (by show g2 < _; omega)).trans a1
     have e2:∀ p:BwC (fun w'=>Below wr.heap.size wr w') F,p.w'.cell? ⟨g2,2,none⟩ = some (.int .i64 (1+mn)):=fun p=>(Below.cell p.h (p:=⟨g2,2,none⟩) (by show g2 < _; omega)).trans a2
     have e3:∀ p:BwC (fun w'=>Below wr.heap.size wr w') F,p.w'.cell? ⟨q,off,none⟩ = some (.int .i64 (20454+r)):=fun p=>(Below.cell p.h (p:=⟨q,off,none⟩) hqr).trans b0
     have e4:∀ p:BwC (fun w'=>Below wr.heap.size wr w') F,p.w'.cell? ⟨q,off+2,none⟩ = some (.slice xB 0 xe):=fun p=>(Below.cell p.h (p:=⟨q,off+2,none⟩) hqr).trans b2
     clear a0 a1 a2 b0 b2
     simp only [M3.opsAt,List.getElem?_toArray,List.getElem?_cons_zero,List.getElem?_cons_succ]
     repeat (first | go_big_quiet_step (fail))
     refine wpQuiet_nil ?_
     rfl
    case M2 =>
     intro Q0 hQ0
     refine M5.mix_one 32 (by kernel_rfl) (by decide) ?_
     intro w20 hC20 hb20
     have hT20:=HTR.out.adv hC20
     refine M3.mix_val (.slice (some ⟨w20.heap.size,0,none⟩) 1 1) (w20.alloc (.cells #[.int .i64 (20454+r),.int .i64 st,.int .i64 (1+mn)] 32)) rfl rfl (by go_simp) ⟨bel_alloc hC20 _,?_⟩
     simp only [Act.put,nqa,nqb,nqc,nqd,nqe,nqf]
     refine M5.mix_one 35 (by kernel_rfl) (by decide) ?_
     intro w21 hC21 hb21
     have hB21:=(Blk.new w20 32 #[.int .i64 (20454+r),.int .i64 st,.int .i64 (1+mn)]).adv hb21
     refine M3.mix_call 13 #[.slice (some ⟨w20.heap.size,0,none⟩) 1 1,.int .i64 (20454+r)] rfl rfl (by go_simp) ?_
     refine (plannedS ⟨20454+r,st,1+mn⟩ w20.heap.size w21 hB21 HSOK.out).mono ?_
     rintro e w22 ⟨rfl,hb22⟩
     refine ⟨_,rfl,bel_adv hC21 hb22,?_⟩
     have hC22:=bel_adv hC21 hb22
     simp only [Act.put,nqa,nqb,nqc,nqd,nqe,nqf]
     clear hC20 hb20 hT20 hC21 hb21 hB21 hb22
     refine M5.mix_take 37 (.bool true) (by kernel_rfl) rfl (by kernel_rfl) rfl (fun _=>by go_simp) ?_
     simp only [Act.put,nqa,nqb,nqc,nqd,nqe,nqf]
     refine M5.mix_take 38 (.bool true) (by kernel_rfl) rfl (by kernel_rfl) rfl (fun _=>by go_simp) ?_
     simp only [Act.put,nqa,nqb,nqc,nqd,nqe,nqf]
     refine M5.mix_take 39 (.bool true) (by kernel_rfl) rfl (by kernel_rfl) rfl (fun _=>by go_simp) ?_
     simp only [Act.put,nqa,nqb,nqc,nqd,nqe,nqf]
     refine M5.mix_one 40 (by kernel_rfl) (by decide) ?_
     intro w23 hC23 hb23
     have hbel23:=(HTR.out.adv hC23).bel
     refine M3.mix_call 14 #[] rfl rfl (by go_simp) ?_
     refine (timedT w23 (HLW.out.adv hbel23)).mono ?_
     rintro e w24 ⟨rfl,hb24⟩
     refine ⟨_,rfl,bel_adv hC23 hb24,?_⟩
     simp only [Act.put,nqa,nqb,nqc,nqd,nqe,nqf]
     refine M5.mix_take 41 (.bool true) (by kernel_rfl) rfl (by kernel_rfl) rfl (fun _=>by go_simp) ?_
     simp only [Act.put,nqa,nqb,nqc,nqd,nqe,nqf]
     refine M5.mix_last (by kernel_rfl) (by kernel_rfl) ?_
     intro w25 hC25 hb25
     have HFIN:=Lib.hid (HTR.out.adv hC25).bel
     refine M3.mix_val (.bool true) w25 rfl rfl (by go_simp) ?_
     simp only [Act.put,nqa,nqb,nqc,nqd,nqe,nqf]
     refine hQ0 _ _ ?_
     clear hC22 hC23 hb23 hbel23 hb24 hC25 hb25 hQ0
     go_wp2
     go_ret
     exact ⟨rfl,HFIN.out⟩
end
end Go.Proofs.YtopekilofdadnaaGreatDoor
