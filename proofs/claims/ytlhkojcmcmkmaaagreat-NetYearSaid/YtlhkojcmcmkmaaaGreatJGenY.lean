/- Joined texts: GenY. Conditions: as stated. -/
import Derived.Test.YtlhkojcmcmkmaaaGreatJGenR
namespace Go.Proofs.YtlhkojcmcmkmaaaGreat
open Go.RowKit
structure YearF (m:YearM) (w:World) (base:Nat) : Prop where
 ins:FrS encI 1 w base m.Ai m.ins
 taken:FrS encE 2 w base m.At m.taken
theorem YearF.grown {m:YearM} {w w' : World} {base:Nat} {row:Option Nat} (h:YearF m w base) (hg:w.grownBy w' row) (hr : ∀ g,row = some g→g < base) : YearF m w' base:=⟨h.ins.grown hg hr,h.taken.grown hg hr⟩
theorem YearF.set {m:YearM} {w:World} {base:Nat} (h:YearF m w base) {g:Nat} (hg:g < base) (i:Nat) (u:Value) : YearF m (w.setCell ⟨g,i,none⟩ u) base:=⟨h.ins.set hg i u,h.taken.set hg i u⟩
structure YearG (k:Nat) (m:YearM) : Prop where
 per:m.periods = k
 len:m.ins.length = k
 ins:∀ x ∈ m.ins,0≤x∧x≤1000000
 inc:0≤m.income∧m.income≤600000 * k
 wh:0≤m.withheld∧m.withheld≤60000 * k
 taken:GenR 4 m.taken
def YrIn (w:World) (b g k : Nat) (Ai:Option Addr) (ci:Nat) (ins:List Int) (At:Option Addr) (ct:Nat) (taken:List Elem) (M:Nat) (inc wh : Int) (wx:World) : Prop :=
 Blk wx g 53 #[.int .i64 k,.int .i64 inc,.int .i64 wh,.slice Ai ins.length ci,.slice At taken.length ct]∧Blk wx w.heap.size 53 #[.int .i64 0,.int .i64 0,.int .i64 0,.slice none 0 0,.slice none 0 0]∧DeckIn wx b M∧w.grownBy wx (some b) ∧
 FrS encI 1 wx (w.heap.size+1) Ai ins∧FrS encE 2 wx (w.heap.size+1) At taken∧w.heap.size < g∧b < w.heap.size∧(∀ a,Ai = some a→a.block ≠ g)∧∀ a,At = some a→a.block ≠ g
section
variable {w wx wy:World} {b g k M M':Nat} {Ai At:Option Addr} {ci ct:Nat} {ins:List Int} {taken:List Elem} {inc wh:Int}
theorem YrIn.adv (h:YrIn w b g k Ai ci ins At ct taken M inc wh wx) (hb:Below wx.heap.size wx wy) : YrIn w b g k Ai ci ins At ct taken M inc wh wy:=by
 obtain ⟨h1,h2,h3,h4,h5,h6,h7⟩:=h
 exact ⟨h1.adv hb,h2.adv hb,h3.bel hb,only_adv h4 hb,h5.adv hb,h6.adv hb,h7⟩
theorem YrIn.deck (h:YrIn w b g k Ai ci ins At ct taken M inc wh wx) (hd:DeckIn wy b M') (hg:wx.grownBy wy (some b)) : YrIn w b g k Ai ci ins At ct taken M' inc wh wy:=by
 obtain ⟨h1,h2,h3,h4,h5,h6,h7,h8,h9⟩:=h
 exact ⟨h1.grown hg (by intro e; injection e; omega),h2.grown hg (by intro e; injection e; omega),hd,only_trans h4 hg,h5.grown hg (fun q e=>by injection e; omega),h6.grown hg (fun q e=>by injection e; omega),h7,h8,h9⟩
theorem YrIn.put (h:YrIn w b g k Ai ci ins At ct taken M inc wh wx) (i:Nat) (u:Value) : Blk (wx.setCell ⟨g,i,none⟩ u) w.heap.size 53 #[.int .i64 0,.int .i64 0,.int .i64 0,.slice none 0 0,.slice none 0 0]∧DeckIn (wx.setCell ⟨g,i,none⟩ u) b M∧w.grownBy (wx.setCell ⟨g,i,none⟩ u) (some b) ∧
  FrS encI 1 (wx.setCell ⟨g,i,none⟩ u) (w.heap.size+1) Ai ins∧FrS encE 2 (wx.setCell ⟨g,i,none⟩ u) (w.heap.size+1) At taken:=by
 obtain ⟨h1,h2,h3,h4,h5,h6,h7,h8,h9,h10⟩:=h
 have hgo:World.grownBy wx (wx.setCell ⟨g,i,none⟩ u) (some g):=only_setCell (p:=⟨g,i,none⟩) (only_refl _ _) (.inl rfl) _
 exact ⟨h2.far (p:=⟨g,i,none⟩) (by show w.heap.size ≠ g; omega) u,h3.set (by omega) i u,only_setCell (p:=⟨g,i,none⟩) h4 (.inr (by show w.heap.size≤g; omega)) u,
  ⟨h5.sl.advN hgo (fun a ha e=>h9 a ha (by injection e with e; exact e.symm)),h5.fr⟩,⟨h6.sl.advN hgo (fun a ha e=>h10 a ha (by injection e with e; exact e.symm)),h6.fr⟩⟩
theorem YrIn.put1 (h:YrIn w b g k Ai ci ins At ct taken M inc wh wx) (x:Int) : YrIn w b g k Ai ci ins At ct taken M x wh (wx.setCell ⟨g,1,none⟩ (.int .i64 x)):=by
 obtain ⟨a,c,d,e,f⟩:=h.put 1 (.int .i64 x)
 exact ⟨h.1.set_ 1 (.int .i64 x),a,c,d,e,f,h.2.2.2.2.2.2⟩
theorem YrIn.put2 (h:YrIn w b g k Ai ci ins At ct taken M inc wh wx) (x:Int) : YrIn w b g k Ai ci ins At ct taken M inc x (wx.setCell ⟨g,2,none⟩ (.int .i64 x)):=by
 obtain ⟨a,c,d,e,f⟩:=h.put 2 (.int .i64 x)
 exact ⟨h.1.set_ 2 (.int .i64 x),a,c,d,e,f,h.2.2.2.2.2.2⟩
end
set_option maxRecDepth 100000 in
set_option maxHeartbeats 4000000 in
theorem year_any (b M k : Nat) (w:World) (hM:M≤300000) (hk:k≤4) (hd:DeckIn w b M) :
  Calls Tryz.prog 33 #[.pointer (some ⟨b,0,none⟩),.int .i64 k] w fun e w'=>∃ m:YearM,e = .returned (.agg #[.int .i64 m.periods,.int .i64 m.income,.int .i64 m.withheld,.slice m.Ai m.ins.length m.ci,.slice m.At m.taken.length m.ct])∧YearG k m∧YearF m w' (w.heap.size+1)∧DeckIn w' b (M+60)∧w.grownBy w' (some b):=by
 have hlt:=hd.lt
 go_enter Tryz.func33,Tryz.ntmps33
 go_wp2_with fail
 refine (bases_any b M k _ (by omega) (by omega) (hd.alloc _)).mono ?_
 rintro e w1 ⟨v1,ins,rfl,hil,hib,hoi,hd1,hg1⟩
 have HIL:=Lib.hid hil
 have HIB:=Lib.hid hib
 clear hil hib
 obtain ⟨Ai,ci,rfl,hI1⟩:=hoi.fresh encI_len
 rw [World.size_alloc] at hI1
 have hgI1:=hoi.blk_lt
 clear hoi
 go_wp2_with fail
 refine (record_any b (M+5 * k) _ (by omega) hd1).mono ?_
 rintro e w2 ⟨v2,taken,rfl,htk,hot,hd2,hg2⟩
 obtain ⟨At,ct,rfl,hT2⟩:=hot.fresh encE_len
 have hgT2:=hot.blk_lt
 have HTK:=Lib.hid htk
 have hz1:w.heap.size+1≤w1.heap.size:=by have:=hg1.size; rw [World.size_alloc] at this; omega
 have hT2':=hT2.weaken hz1
 have hI2:=hI1.grown hg2 (fun g e=>by injection e; omega)
 have hR2:=((Blk.new w 53 #[.int .i64 0,.int .i64 0,.int .i64 0,.slice none 0 0,.slice none 0 0]).grown hg1 (by intro e; injection e; omega)).grown hg2 (by intro e; injection e; omega)
 have hG2:w.grownBy w2 (some b):=only_trans (only_trans (only_alloc (only_refl _ _) _) hg1) hg2
 have hlr:=hR2.lt
 have hs2:=hg2.size
 have hY0:YrIn w b w2.heap.size k Ai ci ins At ct taken (M+5 * k+16) 0 0 (w2.alloc (.cells #[.int .i64 k,.int .i64 0,.int .i64 0,.slice Ai ins.length ci,.slice At taken.length ct] 53)) :=
  ⟨Blk.new _ _ _,hR2.alloc _,hd2.alloc _,only_alloc hG2 _,hI2.alloc _,hT2'.alloc _,hlr,hlt,fun a ha=>by have:=hgI1 a ha; omega,fun a ha=>by have:=hgT2 a ha; omega⟩
 clear htk hot hT2 hI1 hT2' hI2 hR2 hG2 hg1 hg2 hd1 hd2 hd hgI1 hgT2
 go_wp2_with fail
 generalize w2.alloc (.cells #[.int .i64 k,.int .i64 0,.int .i64 0,.slice Ai ins.length ci,.slice At taken.length ct] 53) = w3 at *
 generalize w2.heap.size = g at *
 go_loopw [6] (fun i wr=>∃ (n:Nat) (inc wh:Int),n≤k∧i = .int .i64 n∧(0≤inc∧inc≤600000 * n)∧(0≤wh∧wh≤60000 * n)∧YrIn w b g k Ai ci ins At ct taken (M+5 * k+16+3 * n) inc wh wr) (fun i _=>k - (intOf i).toNat)
 case atStart=>exact ⟨0,0,0,by omega,rfl,by omega,by omega,hY0⟩
 case round =>
  obtain ⟨n,inc,wh,hn,rfl,hinc,hwh,hY⟩:=hrel
  clear hY0
  have hY0:=hY
  clear hY
  have hinc9:inc≤3000000:=by omega
  have hwh9:wh≤3000000:=by omega
  by_cases hlt2:n < k
  ·
   go_upto_region 5 with fail
   generalize hN:M+5 * k+16+3 * n = N at *
   go_cut [] from 19 to 24 (fun wx=>∃ r:Int,0≤r∧r < 600000∧YrIn w b g k Ai ci ins At ct taken (N+2) (inc+r) wh wx)
   case first =>
    as_aux_lemma =>
     refine M3.wp_region_sel (C:=BlkM g 53 (fun m=>#[.int .i64 k,m,.int .i64 wh,.slice Ai ins.length ci,.slice At taken.length ct])) (BlkM.stable _ _ _) (⟨_,hY0.1⟩) (aE:=?aE1) [0,2] 5 (by kernel_rfl) (by kernel_rfl) rfl (by kernel_rfl) (by kernel_rfl) (by rfl) ?H1 ?M1
     case H1 =>
      intro F hF inst
      simp only [M3.opsAt,List.getElem?_toArray,List.getElem?_cons_zero,List.getElem?_cons_succ]
      skip
      repeat (first | go_big_quiet_step (fail))
      refine wpQuiet_nil ?_
      rfl
     case M1 =>
      intro Q0 hQ0
      refine M3.mix_step [1,3] (by kernel_rfl) (by simp) ?_
      intro w1 hC1 hb1 i hi
      simp only [nqj,nqk,or_false] at hi
      have hY1:=hY0.adv hb1
      clear hb1 hY0
      rcases hi with rfl | rfl
      ·
       have z:=hY1.1.cell 1
       simp only [nqg,nqh,nqi] at z
       refine M3.mix_val (.int .i64 inc) w1 rfl rfl (by go_simp) ⟨⟨_,hY1.1⟩,?_⟩
       simp only [Act.put,nqa,nqb,nqc,nqd,nqe,nqf]
       clear hC1
       clear z
       refine M3.mix_step [3] (by kernel_rfl) (by simp) ?_
       intro w2 hC2 hb2 i hi
       simp only [nqj,nqk,or_false] at hi
       subst hi
       have hY2:=hY1.adv hb2
       clear hb2 hY1
       refine M3.mix_call 41 #[.pointer (some ⟨b,0,none⟩)] rfl rfl (by go_simp) ?_
       refine (small_any b (N) w2 (by omega) hY2.2.2.1).mono ?_
       rintro e w3 ⟨r,rfl,har,hbr,hd,hg⟩
       have hY3:=hY2.deck hd hg
       refine ⟨_,rfl,⟨_,hY3.1⟩,?_⟩
       simp only [Act.put,nqa,nqb,nqc,nqd,nqe,nqf]
       clear hd hg hC2 hY2
       refine M3.mix_step [4] (by kernel_rfl) (by simp) ?_
       intro w4 hC4 hb4 i hi
       simp only [nqj,nqk,or_false] at hi
       subst hi
       have hY4:=hY3.adv hb4
       clear hb4 hY3
       refine M3.mix_val (.int .i64 (inc+r)) w4 rfl rfl (by have e:=wrap_in (n:=inc+r) (by omega) (by omega); go_simp) ⟨⟨_,hY4.1⟩,?_⟩
       simp only [Act.put,nqa,nqb,nqc,nqd,nqe,nqf]
       clear hC4
       refine M3.mix_step [5] (by kernel_rfl) (by simp) ?_
       intro w5 hC5 hb5 i hi
       simp only [nqj,nqk,or_false] at hi
       subst hi
       have hY5:=hY4.adv hb5
       clear hb5 hY4
       refine M3.mix_val (.pointer (some ⟨g,1,none⟩)) w5 rfl rfl (by go_simp) ⟨⟨_,hY5.1⟩,?_⟩
       simp only [Act.put,nqa,nqb,nqc,nqd,nqe,nqf]
       clear hC5
       refine M3.mix_step [6] (by kernel_rfl) (by simp) ?_
       intro w6 hC6 hb6 i hi
       simp only [nqj,nqk,or_false] at hi
       subst hi
       have hY6:=hY5.adv hb6
       clear hb6 hY5
       have z:=hY6.1.cell 1
       have fz:=hY6.1.frozen 1
       have lg:=hY6.1.lt
       simp only [nqg,nqh,nqi] at z
       have hY7:=hY6.put1 (inc+r)
       refine M3.mix_skip (w6.setCell ⟨g,1,none⟩ (.int .i64 (inc+r))) rfl rfl (by go_simp) ⟨⟨_,hY7.1⟩,?_⟩
       simp only [Act.put,nqa,nqb,nqc]
       clear z fz lg hC6 hY6
       generalize w6.setCell ⟨g,1,none⟩ (.int .i64 (inc+r)) = w7 at *
       refine M3.mix_end (by kernel_rfl) ?_
       intro w8 hC8 hb8
       refine hQ0 _ _ ?_
       have hY8:=hY7.adv hb8
       clear hb8 hC8 hQ0 hY7
       go_wp2_with fail
       go_meet
       exact ⟨r,har,hbr,hY8⟩
      ·
       refine M3.mix_call 41 #[.pointer (some ⟨b,0,none⟩)] rfl rfl (by go_simp) ?_
       refine (small_any b (N) w1 (by omega) hY1.2.2.1).mono ?_
       rintro e w2 ⟨r,rfl,har,hbr,hd,hg⟩
       have hY2:=hY1.deck hd hg
       refine ⟨_,rfl,⟨_,hY2.1⟩,?_⟩
       simp only [Act.put,nqa,nqb,nqc,nqd,nqe,nqf]
       clear hd hg hC1 hY1
       refine M3.mix_step [1] (by kernel_rfl) (by simp) ?_
       intro w3 hC3 hb3 i hi
       simp only [nqj,nqk,or_false] at hi
       subst hi
       have hY3:=hY2.adv hb3
       clear hb3 hY2
       have z:=hY3.1.cell 1
       simp only [nqg,nqh,nqi] at z
       refine M3.mix_val (.int .i64 inc) w3 rfl rfl (by go_simp) ⟨⟨_,hY3.1⟩,?_⟩
       simp only [Act.put,nqa,nqb,nqc,nqd,nqe,nqf]
       clear hC3
       clear z
       refine M3.mix_step [4] (by kernel_rfl) (by simp) ?_
       intro w4 hC4 hb4 i hi
       simp only [nqj,nqk,or_false] at hi
       subst hi
       have hY4:=hY3.adv hb4
       clear hb4 hY3
       refine M3.mix_val (.int .i64 (inc+r)) w4 rfl rfl (by have e:=wrap_in (n:=inc+r) (by omega) (by omega); go_simp) ⟨⟨_,hY4.1⟩,?_⟩
       simp only [Act.put,nqa,nqb,nqc,nqd,nqe,nqf]
       clear hC4
       refine M3.mix_step [5] (by kernel_rfl) (by simp) ?_
       intro w5 hC5 hb5 i hi
       simp only [nqj,nqk,or_false] at hi
       subst hi
       have hY5:=hY4.adv hb5
       clear hb5 hY4
       refine M3.mix_val (.pointer (some ⟨g,1,none⟩)) w5 rfl rfl (by go_simp) ⟨⟨_,hY5.1⟩,?_⟩
       simp only [Act.put,nqa,nqb,nqc,nqd,nqe,nqf]
       clear hC5
       refine M3.mix_step [6] (by kernel_rfl) (by simp) ?_
       intro w6 hC6 hb6 i hi
       simp only [nqj,nqk,or_false] at hi
       subst hi
       have hY6:=hY5.adv hb6
       clear hb6 hY5
       have z:=hY6.1.cell 1
       have fz:=hY6.1.frozen 1
       have lg:=hY6.1.lt
       simp only [nqg,nqh,nqi] at z
       have hY7:=hY6.put1 (inc+r)
       refine M3.mix_skip (w6.setCell ⟨g,1,none⟩ (.int .i64 (inc+r))) rfl rfl (by go_simp) ⟨⟨_,hY7.1⟩,?_⟩
       simp only [Act.put,nqa,nqb,nqc]
       clear z fz lg hC6 hY6
       generalize w6.setCell ⟨g,1,none⟩ (.int .i64 (inc+r)) = w7 at *
       refine M3.mix_end (by kernel_rfl) ?_
       intro w8 hC8 hb8
       refine hQ0 _ _ ?_
       have hY8:=hY7.adv hb8
       clear hb8 hC8 hQ0 hY7
       go_wp2_with fail
       go_meet
       exact ⟨r,har,hbr,hY8⟩
   case rest =>
    obtain ⟨r1,hr1,hr1',hY1⟩:=hcut
    clear hY0
    go_upto_region 6 with fail
    have hY0:=hY1
    clear hY1
    refine M3.wp_region_sel (C:=BlkM g 53 (fun m=>#[.int .i64 k,.int .i64 (inc+r1),m,.slice Ai ins.length ci,.slice At taken.length ct])) (BlkM.stable _ _ _) (⟨_,hY0.1⟩) (aE:=?aE2) [0,2] 5 (by kernel_rfl) (by kernel_rfl) rfl (by kernel_rfl) (by kernel_rfl) (by rfl) ?H2 ?M2
    case H2 =>
     intro F hF inst
     simp only [M3.opsAt,List.getElem?_toArray,List.getElem?_cons_zero,List.getElem?_cons_succ]
     skip
     repeat (first | go_big_quiet_step (fail))
     refine wpQuiet_nil ?_
     rfl
    case M2 =>
     intro Q0 hQ0
     refine M3.mix_step [1,3] (by kernel_rfl) (by simp) ?_
     intro w1 hC1 hb1 i hi
     simp only [nqj,nqk,or_false] at hi
     have hY1:=hY0.adv hb1
     clear hb1 hY0
     rcases hi with rfl | rfl
     ·
      have z:=hY1.1.cell 2
      simp only [nqg,nqh,nqi] at z
      refine M3.mix_val (.int .i64 wh) w1 rfl rfl (by go_simp) ⟨⟨_,hY1.1⟩,?_⟩
      simp only [Act.put,nqa,nqb,nqc,nqd,nqe,nqf]
      clear hC1
      clear z
      refine M3.mix_step [3] (by kernel_rfl) (by simp) ?_
      intro w2 hC2 hb2 i hi
      simp only [nqj,nqk,or_false] at hi
      subst hi
      have hY2:=hY1.adv hb2
      clear hb2 hY1
      refine M3.mix_call 34 #[.pointer (some ⟨b,0,none⟩),.int .i64 60000] rfl rfl (by go_simp) ?_
      refine (next_any b (N+2) 60000 w2 (by omega) (by omega) (by omega) hY2.2.2.1).mono ?_
      rintro e w3 ⟨r,rfl,har,hbr,hd,hg⟩
      have hY3:=hY2.deck hd hg
      refine ⟨_,rfl,⟨_,hY3.1⟩,?_⟩
      simp only [Act.put,nqa,nqb,nqc,nqd,nqe,nqf]
      clear hd hg hC2 hY2
      refine M3.mix_step [4] (by kernel_rfl) (by simp) ?_
      intro w4 hC4 hb4 i hi
      simp only [nqj,nqk,or_false] at hi
      subst hi
      have hY4:=hY3.adv hb4
      clear hb4 hY3
      refine M3.mix_val (.int .i64 (wh+r)) w4 rfl rfl (by have e:=wrap_in (n:=wh+r) (by omega) (by omega); go_simp) ⟨⟨_,hY4.1⟩,?_⟩
      simp only [Act.put,nqa,nqb,nqc,nqd,nqe,nqf]
      clear hC4
      refine M3.mix_step [5] (by kernel_rfl) (by simp) ?_
      intro w5 hC5 hb5 i hi
      simp only [nqj,nqk,or_false] at hi
      subst hi
      have hY5:=hY4.adv hb5
      clear hb5 hY4
      refine M3.mix_val (.pointer (some ⟨g,2,none⟩)) w5 rfl rfl (by go_simp) ⟨⟨_,hY5.1⟩,?_⟩
      simp only [Act.put,nqa,nqb,nqc,nqd,nqe,nqf]
      clear hC5
      refine M3.mix_step [6] (by kernel_rfl) (by simp) ?_
      intro w6 hC6 hb6 i hi
      simp only [nqj,nqk,or_false] at hi
      subst hi
      have hY6:=hY5.adv hb6
      clear hb6 hY5
      have z:=hY6.1.cell 2
      have fz:=hY6.1.frozen 2
      have lg:=hY6.1.lt
      simp only [nqg,nqh,nqi] at z
      have hY7:=hY6.put2 (wh+r)
      refine M3.mix_skip (w6.setCell ⟨g,2,none⟩ (.int .i64 (wh+r))) rfl rfl (by go_simp) ⟨⟨_,hY7.1⟩,?_⟩
      simp only [Act.put,nqa,nqb,nqc]
      clear z fz lg hC6 hY6
      generalize w6.setCell ⟨g,2,none⟩ (.int .i64 (wh+r)) = w7 at *
      refine M3.mix_end (by kernel_rfl) ?_
      intro w8 hC8 hb8
      refine hQ0 _ _ ?_
      have hY8:=hY7.adv hb8
      clear hb8 hC8 hQ0 hY7
      go_wp2_with fail
      go_roundw
      case rel=>exact ⟨n+1,inc+r1,wh+r,by omega,by go_num,by omega,by omega,by rw [show M+5 * k+16+3 * (n+1) = N+2+1 by omega]; exact hY8⟩
      case measure=>simp [intOf]; omega
     ·
      refine M3.mix_call 34 #[.pointer (some ⟨b,0,none⟩),.int .i64 60000] rfl rfl (by go_simp) ?_
      refine (next_any b (N+2) 60000 w1 (by omega) (by omega) (by omega) hY1.2.2.1).mono ?_
      rintro e w2 ⟨r,rfl,har,hbr,hd,hg⟩
      have hY2:=hY1.deck hd hg
      refine ⟨_,rfl,⟨_,hY2.1⟩,?_⟩
      simp only [Act.put,nqa,nqb,nqc,nqd,nqe,nqf]
      clear hd hg hC1 hY1
      refine M3.mix_step [1] (by kernel_rfl) (by simp) ?_
      intro w3 hC3 hb3 i hi
      simp only [nqj,nqk,or_false] at hi
      subst hi
      have hY3:=hY2.adv hb3
      clear hb3 hY2
      have z:=hY3.1.cell 2
      simp only [nqg,nqh,nqi] at z
      refine M3.mix_val (.int .i64 wh) w3 rfl rfl (by go_simp) ⟨⟨_,hY3.1⟩,?_⟩
      simp only [Act.put,nqa,nqb,nqc,nqd,nqe,nqf]
      clear hC3
      clear z
      refine M3.mix_step [4] (by kernel_rfl) (by simp) ?_
      intro w4 hC4 hb4 i hi
      simp only [nqj,nqk,or_false] at hi
      subst hi
      have hY4:=hY3.adv hb4
      clear hb4 hY3
      refine M3.mix_val (.int .i64 (wh+r)) w4 rfl rfl (by have e:=wrap_in (n:=wh+r) (by omega) (by omega); go_simp) ⟨⟨_,hY4.1⟩,?_⟩
      simp only [Act.put,nqa,nqb,nqc,nqd,nqe,nqf]
      clear hC4
      refine M3.mix_step [5] (by kernel_rfl) (by simp) ?_
      intro w5 hC5 hb5 i hi
      simp only [nqj,nqk,or_false] at hi
      subst hi
      have hY5:=hY4.adv hb5
      clear hb5 hY4
      refine M3.mix_val (.pointer (some ⟨g,2,none⟩)) w5 rfl rfl (by go_simp) ⟨⟨_,hY5.1⟩,?_⟩
      simp only [Act.put,nqa,nqb,nqc,nqd,nqe,nqf]
      clear hC5
      refine M3.mix_step [6] (by kernel_rfl) (by simp) ?_
      intro w6 hC6 hb6 i hi
      simp only [nqj,nqk,or_false] at hi
      subst hi
      have hY6:=hY5.adv hb6
      clear hb6 hY5
      have z:=hY6.1.cell 2
      have fz:=hY6.1.frozen 2
      have lg:=hY6.1.lt
      simp only [nqg,nqh,nqi] at z
      have hY7:=hY6.put2 (wh+r)
      refine M3.mix_skip (w6.setCell ⟨g,2,none⟩ (.int .i64 (wh+r))) rfl rfl (by go_simp) ⟨⟨_,hY7.1⟩,?_⟩
      simp only [Act.put,nqa,nqb,nqc]
      clear z fz lg hC6 hY6
      generalize w6.setCell ⟨g,2,none⟩ (.int .i64 (wh+r)) = w7 at *
      refine M3.mix_end (by kernel_rfl) ?_
      intro w8 hC8 hb8
      refine hQ0 _ _ ?_
      have hY8:=hY7.adv hb8
      clear hb8 hC8 hQ0 hY7
      go_wp2_with fail
      go_roundw
      case rel=>exact ⟨n+1,inc+r1,wh+r,by omega,by go_num,by omega,by omega,by rw [show M+5 * k+16+3 * (n+1) = N+2+1 by omega]; exact hY8⟩
      case measure=>simp [intOf]; omega
  ·
   obtain rfl:n = k:=by omega
   obtain ⟨hX7,hR7,hd7,hG7,hI7,hT7,hsep⟩:=hY0
   rename World=>w7
   have x0:=hX7.cell 0
   have x1:=hX7.cell 1
   have x2:=hX7.cell 2
   have x3:=hX7.cell 3
   have x4:=hX7.cell 4
   simp only [nqg,nqh,nqi] at x0 x1 x2 x3 x4
   have l1:=hX7.lt
   clear hX7
   have y0:=hR7.cell 0
   have y1:=hR7.cell 1
   have y2:=hR7.cell 2
   have y3:=hR7.cell 3
   have y4:=hR7.cell 4
   simp only [nqg,nqh,nqi] at y0 y1 y2 y3 y4
   have fy0:=hR7.frozen 0
   have fy1:=hR7.frozen 1
   have fy2:=hR7.frozen 2
   have fy3:=hR7.frozen 3
   have fy4:=hR7.frozen 4
   have l2:=hR7.lt
   have hfin:=hR7.fill [.int .i64 n,.int .i64 inc,.int .i64 wh,.slice Ai ins.length ci,.slice At taken.length ct] rfl
   simp only [putAll,Nat.zero_add,Nat.reduceAdd] at hfin
   have hdF:=(DeckIn.set (DeckIn.set (DeckIn.set (DeckIn.set (DeckIn.set hd7 (g:=w.heap.size) hlt 0 (.int .i64 n)) (g:=w.heap.size) hlt 1 (.int .i64 inc)) (g:=w.heap.size) hlt 2 (.int .i64 wh)) (g:=w.heap.size) hlt 3 (.slice Ai ins.length ci)) (g:=w.heap.size) hlt 4 (.slice At taken.length ct))
   have hGF:=(only_setCell (p:=⟨w.heap.size,4,none⟩) (only_setCell (p:=⟨w.heap.size,3,none⟩) (only_setCell (p:=⟨w.heap.size,2,none⟩) (only_setCell (p:=⟨w.heap.size,1,none⟩) (only_setCell (p:=⟨w.heap.size,0,none⟩) hG7 (.inr (Nat.le_refl _)) (.int .i64 n)) (.inr (Nat.le_refl _)) (.int .i64 inc)) (.inr (Nat.le_refl _)) (.int .i64 wh)) (.inr (Nat.le_refl _)) (.slice Ai ins.length ci)) (.inr (Nat.le_refl _)) (.slice At taken.length ct))
   have hIF:=(((((hI7.set (g:=w.heap.size) (by omega) 0 (.int .i64 n)).set (g:=w.heap.size) (by omega) 1 (.int .i64 inc)).set (g:=w.heap.size) (by omega) 2 (.int .i64 wh)).set (g:=w.heap.size) (by omega) 3 (.slice Ai ins.length ci)).set (g:=w.heap.size) (by omega) 4 (.slice At taken.length ct))
   have hTF:=(((((hT7.set (g:=w.heap.size) (by omega) 0 (.int .i64 n)).set (g:=w.heap.size) (by omega) 1 (.int .i64 inc)).set (g:=w.heap.size) (by omega) 2 (.int .i64 wh)).set (g:=w.heap.size) (by omega) 3 (.slice Ai ins.length ci)).set (g:=w.heap.size) (by omega) 4 (.slice At taken.length ct))
   clear hR7 hd7 hG7 hI7 hT7
   go_wp2_with fail
   generalize World.setCell _ ⟨w.heap.size,4,none⟩ _ = WW at hfin hdF hGF hIF hTF ⊢
   have q0:=hfin.cell 0
   have q1:=hfin.cell 1
   have q2:=hfin.cell 2
   have q3:=hfin.cell 3
   have q4:=hfin.cell 4
   simp only [nqg,nqh,nqi] at q0 q1 q2 q3 q4
   refine bodyPost_ret (v:=.agg #[.int .i64 n,.int .i64 inc,.int .i64 wh,.slice Ai ins.length ci,.slice At taken.length ct]) ?_ rfl (⟨⟨n,inc,wh,Ai,ci,ins,At,ct,taken⟩,rfl,⟨rfl,HIL.out,HIB.out,hinc,hwh,HTK.out⟩,⟨hIF,hTF⟩,hdF.mono (by omega),hGF⟩)
   simp [results,Tryz.results33,go_sem,q0,q1,q2,q3,q4]
end Go.Proofs.YtlhkojcmcmkmaaaGreat
