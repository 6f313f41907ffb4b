/- Joined texts: TgV2 TgV3. Conditions: as stated. -/
import Derived.Test.YtopekilofdadnaaGreatDoorJLeaf
import Derived.Test.YtopekilofdadnaaGreatDoorJTgO
namespace Go.Proofs.YtopekilofdadnaaGreatDoor
open Go.RowKit Go.Sort Go.Shelf
structure DvAt (w0 w : World) (bd gd gw N : Nat) (b:BandsM) (V:Value) (st:DvS) : Prop where
 blk:Blk w bd 165 #[.string b.n,.slice b.A b.day.length b.c,.slice b.B b.week.length b.d,.map (some gd),.map (some gw),V]
 days:ReadsI w gd N st.days
 weeks:ReadsI w gw N st.weeks
 pcs:Own encPc 4 172 w w0.heap.size V st.pcs
 ne:gd ≠ gw
 bel:Below w0.heap.size w0 w
 lbd:w0.heap.size≤bd
 lgd:w0.heap.size≤gd
 lgw:w0.heap.size≤gw
 bands:BandsIn w0 b
theorem DvAt.adv {w0 w w' : World} {bd gd gw N : Nat} {b:BandsM} {V:Value} {st:DvS} (h:DvAt w0 w bd gd gw N b V st) (hb:Below w.heap.size w w') : DvAt w0 w' bd gd gw N b V st :=
 ⟨h.blk.adv hb,h.days.adv hb,h.weeks.adv hb,h.pcs.adv hb,h.ne,bel_adv h.bel hb,h.lbd,h.lgd,h.lgw,h.bands⟩
theorem DvAt.mono {w0 w : World} {bd gd gw N K : Nat} {b:BandsM} {V:Value} {st:DvS} (h:DvAt w0 w bd gd gw N b V st) (hn:N≤K) : DvAt w0 w bd gd gw K b V st :=
 ⟨h.blk,h.days.mono hn,h.weeks.mono hn,h.pcs,h.ne,h.bel,h.lbd,h.lgd,h.lgw,h.bands⟩
theorem ReadsI.notBlk {w:World} {g n q : Nat} {m:Int→Int} {t:TypeId} {cs:Array Value} (h:ReadsI w g n m) (hB:Blk w q t cs) : q ≠ g:=fun e=>by
 subst e
 obtain ⟨f,⟨D,⟨es,clock,h1,_⟩,_⟩,_⟩:=h
 unfold Blk at hB
 rw [h1] at hB
 cases hB
theorem ReadsI.notOwn {w:World} {g n : Nat} {m:Int→Int} {base:Nat} {v:Value} {l:List PcT} (h:ReadsI w g n m) (ho:Own encPc 4 172 w base v l) : v.ownBlock ≠ some g:=fun e=>by
 obtain ⟨cur,hc⟩:=ho.obj e
 exact h.notBlk (q:=g) (t:=172) (cs:=cur) hc rfl
theorem DvAt.setDays {w0 w w' : World} {bd gd gw N : Nat} {b:BandsM} {V:Value} {st:DvS} {m:Int→Int} (h:DvAt w0 w bd gd gw N b V st) (hm:ReadsI w' gd (N+1) m) (hg:w.grownBy w' (some gd)) : DvAt w0 w' bd gd gw (N+1) b V { st with days:=m } :=
 ⟨h.blk.grown hg (fun e=>h.days.notBlk h.blk (by injection e)),hm,(h.weeks.kept hg (fun e=>h.ne (by injection e with e; exact e.symm))).mono (by omega),h.pcs.keptNe hg (fun q hq e=>h.days.notOwn h.pcs (by rw [hq,e])),h.ne,bel_only h.bel hg (fun g e=>by injection e with e; have:=h.lgd; omega),h.lbd,h.lgd,h.lgw,h.bands⟩
theorem DvAt.setWeeks {w0 w w' : World} {bd gd gw N : Nat} {b:BandsM} {V:Value} {st:DvS} {m:Int→Int} (h:DvAt w0 w bd gd gw N b V st) (hm:ReadsI w' gw (N+1) m) (hg:w.grownBy w' (some gw)) : DvAt w0 w' bd gd gw (N+1) b V { st with weeks:=m } :=
 ⟨h.blk.grown hg (fun e=>h.weeks.notBlk h.blk (by injection e)),(h.days.kept hg (fun e=>h.ne (by injection e))).mono (by omega),hm,h.pcs.keptNe hg (fun q hq e=>h.weeks.notOwn h.pcs (by rw [hq,e])),h.ne,bel_only h.bel hg (fun g e=>by injection e with e; have:=h.lgw; omega),h.lbd,h.lgd,h.lgw,h.bands⟩
theorem nextB_day {r:BandsT} {d:DvS} {day most i1 n1 : Int} (h:findB (d.days day) 0 r.day = (i1,n1)) (hi:0≤i1) : nextB r d day most = ((r.day.getD i1.toNat ⟨⟨#[]⟩,0⟩).name,min n1 most)∧nextD r d day most = { d with days:=upd d.days day (d.days day+min n1 most) }:=by
 have h1:nextB r d day most = ((r.day.getD i1.toNat ⟨⟨#[]⟩,0⟩).name,min n1 most):=by unfold nextB; simp only [h,if_pos hi]
 exact ⟨h1,by unfold nextD; simp only [h1,h,if_pos hi]⟩
theorem nextB_week {r:BandsT} {d:DvS} {day most i1 n1 i2 n2 : Int} (h:findB (d.days day) 0 r.day = (i1,n1)) (hi : ¬ 0≤i1) (h2:findB (d.weeks (monN day)) 0 r.week = (i2,n2)) :
  nextB r d day most = (if 0≤i2 then (r.week.getD i2.toNat ⟨⟨#[]⟩,0⟩).name else r.normal,min (min n1 most) n2)∧nextD r d day most = { d with days:=upd d.days day (d.days day+min (min n1 most) n2),weeks:=upd d.weeks (monN day) (d.weeks (monN day)+min (min n1 most) n2) }:=by
 have h1:nextB r d day most = (if 0≤i2 then (r.week.getD i2.toNat ⟨⟨#[]⟩,0⟩).name else r.normal,min (min n1 most) n2):=by unfold nextB; simp only [h,h2,if_neg hi]
 exact ⟨h1,by unfold nextD; simp only [h1,h,if_neg hi]⟩
def NextPost (w0:World) (bd gd gw N : Nat) (b:BandsM) (V:Value) (st:DvS) (day most : Int) (w:World) (e:Ending) (w' : World) : Prop :=
 e = .returned (.tuple #[.string (nextB b.t st day most).1,.int .i64 (nextB b.t st day most).2])∧DvAt w0 w' bd gd gw (N+2) b V (nextD b.t st day most)∧KeepT w w'∧w.heap.size≤w'.heap.size
section
set_option maxHeartbeats 8000000
set_option maxRecDepth 100000
theorem nextO (w0:World) (bd gd gw N : Nat) (b:BandsM) (V:Value) (st:DvS) (day most : Int) (w:World) (h:DvAt w0 w bd gd gw N b V st) (hd:0≤day∧day≤84005) (hm:1≤most∧most≤200000000) (hN:N≤1000000)
  (ht:(0≤st.days day∧st.days day≤200000)∧0≤st.weeks (monN day)∧st.weeks (monN day)≤200000) :
  Calls Tryz.prog 62 #[.pointer (some ⟨bd,0,none⟩),.int .i64 day,.int .i64 most] w (NextPost w0 bd gd gw N b V st day most w):=by
 obtain ⟨d1,d2⟩:=hd
 obtain ⟨m1,m2⟩:=hm
 obtain ⟨⟨t1,t2⟩,t3,t4⟩:=ht
 have HW:=Lib.hid (show (Lit.int .i64 day).wf = true from wf64 (by omega) (by omega))
 have hdl:=h.bands.dl
 have hwl:=h.bands.wl
 have hblk:=h.blk
 have hbl:=hblk.lt
 have z0:=hblk.cell 0
 have z1:=hblk.cell 1
 have z2:=hblk.cell 2
 have z3:=hblk.cell 3
 have z4:=hblk.cell 4
 have z5:=hblk.cell 5
 simp only [nqg,nqh,nqi] at z0 z1 z2 z3 z4 z5
 have e1:=Bw.cell (w:=w) (a:=⟨bd,1,none⟩) (by exact hbl) z1
 have e3:=Bw.cell (w:=w) (a:=⟨bd,3,none⟩) (by exact hbl) z3
 have HL:=Lib.hid (fun p:Bw w=>(h.days.adv p.h).get day HW.out)
 have HF:=Lib.hid (fun W (hb:Below w.heap.size w W)=>findO b.A b.c b.day (st.days day) W ((h.bands.ds.below (bel_adv h.bel hb)).more (by have:=(bel_adv h.bel hb).size; omega)) hdl h.bands.da ⟨t1,by omega⟩)
 obtain ⟨fp1,fp2,fp3⟩:=findB_pos (st.days day) b.day 0
 have fp4:=findB_bd (i:=0) h.bands.da (by omega) t1
 rcases hfb:findB (st.days day) 0 b.day with ⟨i1,n1⟩
 rw [hfb] at fp1 fp2 fp3 fp4
 simp only [hfb] at HF
 have fp1:1≤n1:=fp1
 have fp2 : -1≤i1:=by omega
 have fp3:i1 < b.day.length:=by omega
 have fp4:n1≤100000:=fp4
 have HFB:=Lib.hid hfb
 have HH:=Lib.hid h
 have hl:=HL.out
 clear h hblk hfb
 go_enter Tryz.func62,Tryz.ntmps62
 go_wp2
 refine wp_region_below (by kernel_rfl) (by kernel_rfl) ?_
 repeat (go_big_quiet_step (first | exact Bw.call _ (HF.out _ (Bw.h _))))
 refine wpQuiet_nil ?_
 intro w1 hw'
 obtain ⟨⟨w1,hW1⟩,hw''⟩:=hw'
 subst hw''
 have hH1:=HH.out.adv hW1
 have hK1:KeepT w w1:=KeepT.adv hW1
 have HK1:=Lib.hid hK1
 have HH1:=Lib.hid hH1
 have hs1:=hW1.size
 have hb1:=hH1.blk
 have hbl1:=hb1.lt
 clear z0 z1 z2 z3 z4 z5 e1 e3 hl hK1 hH1
 have z0:=hb1.cell 0
 have z1:=hb1.cell 1
 have z2:=hb1.cell 2
 have z3:=hb1.cell 3
 have z4:=hb1.cell 4
 have z5:=hb1.cell 5
 simp only [nqg,nqh,nqi] at z0 z1 z2 z3 z4 z5
 clear hb1
 go_upto_region 2 with fail
 go_cut [9] (fun v wx=>v = .int .i64 (min n1 most)∧wx = w1)
 case first =>
  by_cases hle:n1≤most
  ·
   have HMI:Hid (min n1 most = n1):=by rw [Hid]; omega
   go_wp2
   go_meet
   exact ⟨by rw [HMI.out],rfl⟩
  ·
   have HMI:Hid (min n1 most = most):=by rw [Hid]; omega
   go_wp2
   go_meet
   exact ⟨by rw [HMI.out],rfl⟩
 case rest =>
  obtain ⟨rfl,rfl⟩:=hcut
  obtain ⟨m,hm⟩ : ∃ m,min n1 most = m:=⟨_,rfl⟩
  have hm1:1≤m:=by omega
  have hm2:m≤100000:=by omega
  rw [hm]
  have HM:=Lib.hid hm
  clear hm
  by_cases hi:0≤i1
  ·
   obtain ⟨j,rfl⟩ : ∃ j:Nat,i1 = j:=⟨i1.toNat,by omega⟩
   have hj:j < b.day.length:=by omega
   obtain ⟨N1,N2⟩:=nextB_day (r:=b.t) (most:=most) HFB.out hi
   rw [HM.out] at N1 N2
   rw [show (b.t.day.getD ((j:Int)).toNat ⟨⟨#[]⟩,0⟩) = b.day[j] by rw [Int.toNat_natCast,List.getD_eq_getElem?_getD]; show (b.day[j]?).getD _ = _; rw [List.getElem?_eq_getElem hj]; rfl] at N1
   obtain ⟨q,off,hA,hq,hc⟩:=HH1.out.bands.ds.at_ hj
   have c0:=hc 0 _ rfl
   simp only [Nat.add_zero] at c0
   rw [hA] at z1
   have HC0:=Lib.hid c0
   have HN1:=Lib.hid N1
   have HN2:=Lib.hid N2
   have HAE:=Lib.hid hA
   have hji:(j:Int) < (b.day.length:Int):=by omega
   have hj0:(0:Int)≤(j:Int):=by omega
   have HDY:=Lib.hid HH1.out.days
   clear hc c0 N1 N2 hA
   generalize b.day[j] = x at HC0 HN1
   obtain ⟨nm,af⟩:=x
   simp only at HC0 HN1
   obtain ⟨dv,hdv⟩ : ∃ dv,st.days day = dv:=⟨_,rfl⟩
   have HDV:=Lib.hid hdv
   rw [hdv] at t1 t2
   clear hdv
   go_wp2_with (first
    | (at_lookup; go_loud (refine wpList_readI (by rfl) _ _ (by rfl) HDY.out day HW.out (by rfl) (by rfl) dv HDV.out ?_))
    | (at_mapUpdate; go_loud (refine wpList_setI (by rfl) _ _ _ (by rfl) HDY.out (by unfold maxLen; omega) day (dv+m) HW.out (by rfl) (by rfl) (by rfl) ?_); intro w5 hd5 hg5 hk5; have hH5:=HH1.out.setDays hd5 hg5; have hb5:=hH5.blk; have hq5:=(hH5.bel.cell (p:=⟨q,off+j * 2,none⟩) hq).trans HC0.out; have hbl5:=hb5.lt; have hs5:=hg5.size; clear z0 z1 z2 z3 z4 z5; have z0:=hb5.cell 0; have z1:=hb5.cell 1; have z2:=hb5.cell 2; have z3:=hb5.cell 3; have z4:=hb5.cell 4; have z5:=hb5.cell 5; simp only [nqg,nqh,nqi] at z0 z1 z2 z3 z4 z5; have HH5:=Lib.hid hH5; have HK5:=Lib.hid hk5; rw [HAE.out] at z1; clear hH5 hb5 hd5 hg5 hk5))
   go_ret2
   exact ⟨by rw [HN1.out]; rfl,by rw [HN2.out,HDV.out]; exact HH5.out.mono (by omega),HK1.out.trans HK5.out,by omega⟩
  ·
   have hi0:decide (0≤i1) = false:=decide_eq_false hi
   have hW7:Int.tmod (day+3) 7 = (day+3) % 7:=Int.tmod_eq_emod_of_nonneg (by omega)
   have hmn:monN day = day - (day+3) % 7:=rfl
   have HWM:=Lib.hid (show (Lit.int .i64 (monN day)).wf = true from wf64 (by unfold monN; omega) (by unfold monN; omega))
   have HMON:=Lib.hid hmn
   have hmb : -7≤monN day∧monN day≤84005:=by unfold monN; omega
   clear hmn
   go_upto_region 6 with fail
   go_cut [10] (fun v wx=>v = .int .i64 (monN day)∧wx = wc)
   case first =>
    go_wp2
    go_meet
    exact ⟨by rw [HMON.out],rfl⟩
   case rest =>
    clear hW7
    obtain ⟨rfl,rfl⟩:=hcut
    have e2:=Bw.cell (w:=wc) (a:=⟨bd,2,none⟩) (by exact hbl1) z2
    have e4:=Bw.cell (w:=wc) (a:=⟨bd,4,none⟩) (by exact hbl1) z4
    have HL2:=Lib.hid (fun p:Bw wc=>(HH1.out.weeks.adv p.h).get (monN day) HWM.out)
    have HF2:=Lib.hid (fun W (hb:RowKit.Below wc.heap.size wc W)=>findO b.B b.d b.week (st.weeks (monN day)) W ((HH1.out.bands.ws.below (bel_adv HH1.out.bel hb)).more (by have:=(bel_adv HH1.out.bel hb).size; omega)) hwl HH1.out.bands.wa ⟨t3,by omega⟩)
    obtain ⟨fq1,fq2,fq3⟩:=findB_pos (st.weeks (monN day)) b.week 0
    have fq4:=findB_bd (i:=0) HH1.out.bands.wa (by omega) t3
    rcases hfb:findB (st.weeks (monN day)) 0 b.week with ⟨i2,n2⟩
    rw [hfb] at fq1 fq2 fq3 fq4
    simp only [hfb] at HF2
    have fq1:1≤n2:=fq1
    have fq2 : -1≤i2:=by omega
    have fq3:i2 < b.week.length:=by omega
    have fq4:n2≤100000:=fq4
    have HFB2:=Lib.hid hfb
    obtain ⟨N1,N2⟩:=nextB_week (r:=b.t) (most:=most) HFB.out hi HFB2.out
    rw [HM.out] at N1 N2
    have HN1:=Lib.hid N1
    have HN2:=Lib.hid N2
    have hl:=HL2.out
    clear hfb N1 N2 HL HF hi hi0
    go_wp2
    refine wp_region_below (by kernel_rfl) (by kernel_rfl) ?_
    repeat (go_big_quiet_step (first | exact Bw.call _ (HF2.out _ (Bw.h _))))
    refine wpQuiet_nil ?_
    intro w2 hw'
    obtain ⟨⟨w2,hW2⟩,hw''⟩:=hw'
    subst hw''
    have hH2:=HH1.out.adv hW2
    have HK2:=Lib.hid (HK1.out.trans (KeepT.adv hW2))
    have HH2:=Lib.hid hH2
    have hs2:=hW2.size
    have hb2:=hH2.blk
    have hbl2:=hb2.lt
    clear z0 z1 z2 z3 z4 z5 e2 e4 hl hH2
    have z0:=hb2.cell 0
    have z1:=hb2.cell 1
    have z2:=hb2.cell 2
    have z3:=hb2.cell 3
    have z4:=hb2.cell 4
    have z5:=hb2.cell 5
    simp only [nqg,nqh,nqi] at z0 z1 z2 z3 z4 z5
    clear hb2
    go_upto_region 8 with fail
    go_cut [9] (fun v wx=>v = .int .i64 (min m n2)∧wx = w2)
    case first =>
     by_cases hle:m≤n2
     ·
      have HMI:Hid (min m n2 = m):=by rw [Hid]; omega
      go_wp2
      go_meet
      exact ⟨by rw [HMI.out],rfl⟩
     ·
      have HMI:Hid (min m n2 = n2):=by rw [Hid]; omega
      go_wp2
      go_meet
      exact ⟨by rw [HMI.out],rfl⟩
    case rest =>
     obtain ⟨rfl,rfl⟩:=hcut
     obtain ⟨k,hk⟩ : ∃ k,min m n2 = k:=⟨_,rfl⟩
     have hk1:1≤k:=by omega
     have hk2:k≤100000:=by omega
     rw [hk]
     rw [hk] at HN1 HN2
     clear hk
     obtain ⟨dv,hdv⟩ : ∃ dv,st.days day = dv:=⟨_,rfl⟩
     have HDV:=Lib.hid hdv
     rw [hdv] at t1 t2
     obtain ⟨wv,hwv⟩ : ∃ wv,st.weeks (monN day) = wv:=⟨_,rfl⟩
     have HWV:=Lib.hid hwv
     rw [hwv] at t3 t4
     clear hdv hwv
     have HDY:=Lib.hid HH2.out.days
     generalize hM:monN day = M at HWM HWV HN1 HN2 HL2 HF2 hmb HFB2 HMON ⊢
     clear hM HL2 HF2 HFB2 HMON
     go_upto_region 10 with (first
      | (at_lookup; go_loud (refine wpList_readI (by rfl) _ _ (by rfl) HDY.out day HW.out (by rfl) (by rfl) dv HDV.out ?_))
      | (at_mapUpdate; go_loud (refine wpList_setI (by rfl) _ _ _ (by rfl) HDY.out (by unfold maxLen; omega) day (dv+k) HW.out (by rfl) (by rfl) (by rfl) ?_); intro w5 hd5 hg5 hk5; have hH5:=HH2.out.setDays hd5 hg5; have hb5:=hH5.blk; have hbl5:=hb5.lt; have hs5:=hg5.size; clear z0 z1 z2 z3 z4 z5; have z0:=hb5.cell 0; have z1:=hb5.cell 1; have z2:=hb5.cell 2; have z3:=hb5.cell 3; have z4:=hb5.cell 4; have z5:=hb5.cell 5; simp only [nqg,nqh,nqi] at z0 z1 z2 z3 z4 z5; have HH5:=Lib.hid hH5; have HK5:=Lib.hid (HK2.out.trans hk5); clear hH5 hb5 hd5 hg5 hk5))
     have HWK:=Lib.hid HH5.out.weeks
     by_cases hi2:0≤i2
     ·
      obtain ⟨j,rfl⟩ : ∃ j:Nat,i2 = j:=⟨i2.toNat,by omega⟩
      have hj:j < b.week.length:=by omega
      rw [if_pos hi2] at HN1
      rw [show (b.t.week.getD ((j:Int)).toNat ⟨⟨#[]⟩,0⟩) = b.week[j] by rw [Int.toNat_natCast,List.getD_eq_getElem?_getD]; show (b.week[j]?).getD _ = _; rw [List.getElem?_eq_getElem hj]; rfl] at HN1
      obtain ⟨q,off,hA,hq,hc⟩:=HH1.out.bands.ws.at_ hj
      have c0:=hc 0 _ rfl
      simp only [Nat.add_zero] at c0
      have HC0:=Lib.hid c0
      have HAE:=Lib.hid hA
      have hji:(j:Int) < (b.week.length:Int):=by omega
      have hj0:(0:Int)≤(j:Int):=by omega
      clear hc c0 hA
      generalize b.week[j] = x at HC0 HN1
      obtain ⟨nm,af⟩:=x
      simp only at HC0 HN1
      go_wp2_with (first
       | (at_lookup; go_loud (refine wpList_readI (by rfl) _ _ (by rfl) HWK.out M HWM.out (by rfl) (by rfl) wv HWV.out ?_))
       | (at_mapUpdate; go_loud (refine wpList_setI (by rfl) _ _ _ (by rfl) HWK.out (by unfold maxLen; omega) M (wv+k) HWM.out (by rfl) (by rfl) (by rfl) ?_); intro w6 hd6 hg6 hk6; have hH6:=HH5.out.setWeeks hd6 hg6; have hb6:=hH6.blk; have hq6:=(hH6.bel.cell (p:=⟨q,off+j * 2,none⟩) hq).trans HC0.out; have hbl6:=hb6.lt; have hs6:=hg6.size; clear z0 z1 z2 z3 z4 z5; have z0:=hb6.cell 0; have z1:=hb6.cell 1; have z2:=hb6.cell 2; have z3:=hb6.cell 3; have z4:=hb6.cell 4; have z5:=hb6.cell 5; simp only [nqg,nqh,nqi] at z0 z1 z2 z3 z4 z5; have HH6:=Lib.hid hH6; have HK6:=Lib.hid (HK5.out.trans hk6); rw [HAE.out] at z2; clear hH6 hb6 hd6 hg6 hk6))
      go_ret2
      exact ⟨by rw [HN1.out]; rfl,by rw [HN2.out,HDV.out,HWV.out]; exact HH6.out,HK6.out,by omega⟩
     ·
      rw [if_neg hi2] at HN1
      have hi20:decide (0≤i2) = false:=decide_eq_false hi2
      go_wp2_with (first
       | (at_lookup; go_loud (refine wpList_readI (by rfl) _ _ (by rfl) HWK.out M HWM.out (by rfl) (by rfl) wv HWV.out ?_))
       | (at_mapUpdate; go_loud (refine wpList_setI (by rfl) _ _ _ (by rfl) HWK.out (by unfold maxLen; omega) M (wv+k) HWM.out (by rfl) (by rfl) (by rfl) ?_); intro w6 hd6 hg6 hk6; have hH6:=HH5.out.setWeeks hd6 hg6; have hb6:=hH6.blk; have hbl6:=hb6.lt; have hs6:=hg6.size; clear z0 z1 z2 z3 z4 z5; have z0:=hb6.cell 0; have z1:=hb6.cell 1; have z2:=hb6.cell 2; have z3:=hb6.cell 3; have z4:=hb6.cell 4; have z5:=hb6.cell 5; simp only [nqg,nqh,nqi] at z0 z1 z2 z3 z4 z5; have HH6:=Lib.hid hH6; have HK6:=Lib.hid (HK5.out.trans hk6); clear hH6 hb6 hd6 hg6 hk6))
      go_ret2
      exact ⟨by rw [HN1.out]; rfl,by rw [HN2.out,HDV.out,HWV.out]; exact HH6.out,HK6.out,by omega⟩
end
end Go.Proofs.YtopekilofdadnaaGreatDoor
namespace Go.Proofs.YtopekilofdadnaaGreatDoor
open Go.RowKit Go.Sort Go.Shelf
section
variable {w0 w w2:World} {bd gd gw N:Nat} {b:BandsM} {V V':Value} {st:DvS}
theorem DvAt.ownNe (h:DvAt w0 w bd gd gw N b V st) : V.ownBlock ≠ some bd:=h.pcs.notBlk h.blk (by decide)
theorem DvAt.addPcs {l:List PcT} (h:DvAt w0 w bd gd gw N b V st) (ho:Own encPc 4 172 w2 w0.heap.size V' l) (hg:w.grownBy w2 V.ownBlock) (hne:V'.ownBlock ≠ some bd) : DvAt w0 (w2.setCell ⟨bd,5,none⟩ V') bd gd gw N b V' { st with pcs:=l }:=by
 have hs:w2.grownBy (w2.setCell ⟨bd,5,none⟩ V') (some bd):=only_setCell (only_refl _ _) (.inl rfl) _
 have hB2:=h.blk.grown hg (fun e=>h.ownNe e.symm)
 have hd2:=h.days.kept hg (fun e=>h.days.notOwn h.pcs e.symm)
 have hw2:=h.weeks.kept hg (fun e=>h.weeks.notOwn h.pcs e.symm)
 exact ⟨hB2.set_ 5 V',hd2.kept hs (fun e=>hd2.notBlk hB2 (by injection e with e; exact e.symm)),hw2.kept hs (fun e=>hw2.notBlk hB2 (by injection e with e; exact e.symm)),ho.keptNe hs (fun q hq e=>hne (by rw [hq,← e])),h.ne,
  bel_only (bel_only h.bel hg (fun g hg=>(h.pcs.block_lt hg).1)) hs (fun g e=>by injection e with e; have:=h.lbd; omega),h.lbd,h.lgd,h.lgw,h.bands⟩
theorem DvAt.setPc {l:List PcT} {g i : Nat} {u:Value} (h:DvAt w0 w bd gd gw N b V st) (hV:V.ownBlock = some g) (ho:Own encPc 4 172 (w.setCell ⟨g,i,none⟩ u) w0.heap.size V l) : DvAt w0 (w.setCell ⟨g,i,none⟩ u) bd gd gw N b V { st with pcs:=l }:=by
 have hs:w.grownBy (w.setCell ⟨g,i,none⟩ u) (some g):=only_setCell (only_refl _ _) (.inl rfl) _
 exact ⟨h.blk.grown hs (fun e=>h.ownNe (by rw [hV]; exact e.symm)),h.days.kept hs (fun e=>h.days.notOwn h.pcs (by rw [hV]; exact e.symm)),h.weeks.kept hs (fun e=>h.weeks.notOwn h.pcs (by rw [hV]; exact e.symm)),ho,h.ne,
  bel_only h.bel hs (fun g' e=>by injection e with e; have:=(h.pcs.block_lt hV).1; omega),h.lbd,h.lgd,h.lgw,h.bands⟩
end
theorem beqS_true {a b : ByteArray} (h:a = b) : (a.toList == b.toList) = true:=by subst h; simp
theorem beqS_false {a b : ByteArray} (h : ¬ a = b) : (a.toList == b.toList) = false:=by
 rw [beq_eq_false_iff_ne]
 intro e
 rw [ByteArray.toList_eq,ByteArray.toList_eq] at e
 refine h ?_
 cases a
 cases b
 simp only [ByteArray.mk.injEq]
 exact Array.ext' e
theorem addPc_last {l:List PcT} {m:Nat} (hm:l.length = m+1) (hlm:m < l.length) (p:PcT) : addPc l p = if l[m].day = p.day∧l[m].band = p.band∧l[m].iv.t = p.iv.f then l.set m ⟨l[m].day,⟨l[m].iv.f,p.iv.t⟩,l[m].band⟩ else l++[p]:=by
 unfold addPc
 have h1:l.getLast? = some l[m]:=by rw [List.getLast?_eq_getElem?,hm]; simp
 rw [h1]
 simp only
 split
 ·
  apply List.ext_getElem
  ·
   simp; omega
  ·
   intro i h1 h2
   simp only [List.length_append,List.length_dropLast,List.length_singleton] at h1
   by_cases hi:i < m
   ·
    rw [List.getElem_append_left (by simp; omega),List.getElem_set_ne (by omega),List.getElem_dropLast]
   ·
    have:i = m:=by omega
    subst this
    rw [List.getElem_append_right (by simp; omega),List.getElem_set_self]
    simp
 ·
  rfl
def AddPost (w0:World) (bd gd gw N : Nat) (b:BandsM) (st:DvS) (p:PcT) (w:World) (e:Ending) (w' : World) : Prop :=
 e = .returned (.tuple #[])∧(∃ V',DvAt w0 w' bd gd gw N b V' { st with pcs:=addPc st.pcs p })∧KeepT w w'∧w.heap.size≤w'.heap.size
section
set_option maxHeartbeats 8000000
set_option maxRecDepth 100000
theorem addO (w0:World) (bd gd gw N : Nat) (b:BandsM) (V:Value) (st:DvS) (day f t : Int) (band:ByteArray) (w:World) (h:DvAt w0 w bd gd gw N b V st) (hl:st.pcs.length≤1000000) :
  Calls Tryz.prog 63 #[.pointer (some ⟨bd,0,none⟩),.agg #[.int .i64 day,.int .i64 f,.int .i64 t,.string band]] w (AddPost w0 bd gd gw N b st ⟨day,⟨f,t⟩,band⟩ w):=by
 obtain ⟨A,c,hv⟩:=h.pcs.slice encPc_len
 subst hv
 have hA:=h.adv (below_new w (.cells #[.int .i64 day,.int .i64 f,.int .i64 t,.string band] 172))
 have hK0:KeepT w (w.alloc (.cells #[.int .i64 day,.int .i64 f,.int .i64 t,.string band] 172)):=KeepT.adv (below_new w _)
 have hBX:=Blk.new w 172 #[.int .i64 day,.int .i64 f,.int .i64 t,.string band]
 have hXO:Hid ((Value.slice A st.pcs.length c).ownBlock ≠ some w.heap.size):=fun e=>by have:=(h.pcs.block_lt e).2; omega
 have hs0:w.heap.size≤(w.alloc (.cells #[.int .i64 day,.int .i64 f,.int .i64 t,.string band] 172)).heap.size:=by simp
 have hblk:=h.blk
 have hbl0:=hblk.lt
 have z0:=hblk.cell 0
 have z1:=hblk.cell 1
 have z2:=hblk.cell 2
 have z3:=hblk.cell 3
 have z4:=hblk.cell 4
 have z5:=hblk.cell 5
 simp only [nqg,nqh,nqi] at z0 z1 z2 z3 z4 z5
 clear h hblk
 by_cases hst:st.pcs = []
 ·
  have hz:st.pcs.length = 0:=by rw [hst]; rfl
  have HEQ:Hid (addPc st.pcs ⟨day,⟨f,t⟩,band⟩ = st.pcs++[⟨day,⟨f,t⟩,band⟩]):=by rw [Hid,hst]; rfl
  rw [hz] at z5 hXO hA
  have HXO:Hid ((Value.slice A 0 c).ownBlock ≠ some w.heap.size):=hXO
  have HDV:=Lib.hid hA
  have HBX:=Lib.hid hBX
  have HK:=Lib.hid hK0
  clear hst hz hXO hA hBX hK0
  go_enter Tryz.func63,Tryz.ntmps63
  go_upto_region 6 with fail
  generalize w.alloc (.cells #[.int .i64 day,.int .i64 f,.int .i64 t,.string band] 172) = W at HDV HBX HK hs0 ⊢
  clear z0 z1 z2 z3 z4 z5
  have hWb:=HDV.out.blk
  have hlt:=hWb.lt
  have hWx:=HBX.out
  have hlx:=hWx.lt
  have hgn:=HDV.out.ownNe
  have hgx:=HXO.out
  have hw0s:=HDV.out.bel.size
  have y0:=hWb.cell 0
  have y1:=hWb.cell 1
  have y2:=hWb.cell 2
  have y3:=hWb.cell 3
  have y4:=hWb.cell 4
  have y5:=hWb.cell 5
  simp only [nqg,nqh,nqi] at y0 y1 y2 y3 y4 y5
  have x0:=hWx.cell 0
  have x1:=hWx.cell 1
  have x2:=hWx.cell 2
  have x3:=hWx.cell 3
  simp only [nqg,nqh,nqi] at x0 x1 x2 x3
  clear hWb hWx
  refine wp_region_app (aE:=?aEA) (enc:=encPc) (e:=172) [0,1,2,3,4,5] 6 7 8 9 10 (⟨day,⟨f,t⟩,band⟩ : PcT) (bd) 5 (.tmp 58) 100 40 _ (.pointer (some ⟨bd,0,none⟩)) (by kernel_rfl) (by kernel_rfl) rfl (by kernel_rfl) (by rfl) rfl (by kernel_rfl) (by kernel_rfl) (by kernel_rfl) (by kernel_rfl) (by kernel_rfl) (by kernel_rfl) rfl rfl rfl rfl rfl rfl rfl rfl rfl rfl rfl rfl rfl rfl rfl rfl infoPc Tryz.underlying100 HDV.out.pcs HDV.out.blk encPc_len (by omega) rfl (encPc_one _) (by omega) (by omega) (by omega) hgn ?HA ?EaA ?EsA ?E1A ?E2A ?ExA ?MA
  case HA =>
   intro F hF inst
   simp only [M3.opsAt,List.getElem?_toArray,List.getElem?_cons_zero,List.getElem?_cons_succ]
   have e5:=BwC.cellG (F:=F) (a:=⟨bd,5,none⟩) (by exact hlt) hgn y5
   have d0:=BwC.cellG (F:=F) (a:=⟨w.heap.size,0,none⟩) (by exact hlx) hgx x0
   have d1:=BwC.cellG (F:=F) (a:=⟨w.heap.size,1,none⟩) (by exact hlx) hgx x1
   have d2:=BwC.cellG (F:=F) (a:=⟨w.heap.size,2,none⟩) (by exact hlx) hgx x2
   have d3:=BwC.cellG (F:=F) (a:=⟨w.heap.size,3,none⟩) (by exact hlx) hgx x3
   repeat (first | go_big_quiet_step (first | fail) | quiet_step (first | fail))
   refine wpQuiet_nil ?_
   rfl
  case EaA=>exact fun _=>by first | rfl | (go_simp; done) | (go_simp; rfl)
  case EsA=>exact fun _=>⟨rfl,rfl⟩
  case E1A=>exact fun _ _ _=>by first | rfl | go_simp
  case E2A=>exact fun _ _ _=>by first | rfl | go_simp
  case ExA =>
   intro uq Aq nq cq wq hBq
   have cq0:=hBq.cell 5
   have fq0:=hBq.frozen 5
   simp only [nqg,nqh,nqi] at cq0
   go_simp
  case MA =>
   intro u A2 c2 w2 hown2 hg2 halt
   try simp only [Act.put,List.setIfInBounds_toArray,List.set_cons_succ,List.set_cons_zero]
   have hne2:(Value.slice A2 (st.pcs.length+1) c2).ownBlock ≠ some bd:=by
    rcases halt with h | ⟨q,h1,h2⟩
    ·
     rw [h]; exact hgn
    ·
     rw [h2]; intro e; injection e with e; omega
   have hDn:=HDV.out.addPcs hown2 hg2 hne2
   have hs2:=hg2.size
   have hK3:=(HK.out.trans (KeepT.own HDV.out.pcs hg2)).trans (KeepT.blk (HDV.out.blk.grown hg2 (fun e=>hgn e.symm)) (.inl rfl) (only_setCell (only_refl w2 (some bd)) (p:=⟨bd,5,none⟩) (.inl rfl) (.slice A2 (st.pcs.length+1) c2)))
   have HDN:=Lib.hid hDn
   have HK3:=Lib.hid hK3
   clear hDn hK3 hown2 hg2 halt hne2
   go_wp2
   go_end0
   refine ⟨rfl,⟨_,by rw [HEQ.out]; exact HDN.out⟩,HK3.out,?_⟩
   rw [size_setC]; omega
 ·
  obtain ⟨m,hm⟩ : ∃ m,st.pcs.length = m+1:=⟨st.pcs.length - 1,by have:=List.length_pos_iff.2 hst; omega⟩
  have hlm:m < st.pcs.length:=by omega
  have HADD:=Lib.hid (addPc_last hm hlm ⟨day,⟨f,t⟩,band⟩)
  have HXO:=hXO
  obtain ⟨g,cap,cur,hv,hgb,hBg,hcap,hcm⟩:=hA.pcs.some_ (by omega)
  injection hv with hv1 hv2 hv3
  subst hv1 hv3
  obtain ⟨A0,c0,hv0,hS0,_,_⟩:=hA.pcs.form encPc_len
  injection hv0 with hv1 hv2 hv3
  subst hv1 hv3
  obtain ⟨gb,go,hg0,_,hcl⟩:=hS0.at_ hlm
  injection hg0 with hg0
  injection hg0 with hg1 hg2
  subst hg1 hg2
  have l0:=hcl 0 _ rfl
  have l1:=hcl 1 _ rfl
  have l2:=hcl 2 _ rfl
  have l3:=hcl 3 _ rfl
  simp only [Nat.zero_add,Nat.add_zero] at l0 l1 l2 l3
  have HDV:=Lib.hid hA
  have HBX:=Lib.hid hBX
  have HK:=Lib.hid hK0
  have hgl:=hBg.lt
  have HBG:=Lib.hid hBg
  have hml:(m:Int) < (st.pcs.length:Int):=by omega
  have hn0:(0:Int) < (st.pcs.length:Int):=by omega
  have hpd:decide (0 < st.pcs.length) = true:=decide_eq_true (by omega)
  have hwr:IntKind.i64.wrap ((st.pcs.length:Int) - 1) = (m:Int):=by rw [IntKind.wrap_i64]; omega
  obtain ⟨u,hu⟩ : ∃ u,st.pcs[m] = u:=⟨_,rfl⟩
  have HU:=Lib.hid hu
  rw [hu] at l0 l1 l2 l3 HADD
  obtain ⟨ud,⟨uf,ut⟩,ub⟩:=u
  simp only at l0 l1 l2 l3
  simp only at HADD
  have HC2:Hid (cur[m * 4+2]? = some (.int .i64 ut)):=by rw [Hid,← hBg.cell]; exact l2
  clear hu hst hm hv2 hS0 hcl hA hBX hK0 hBg hXO
  go_enter Tryz.func63,Tryz.ntmps63
  go_upto_region 4 with fail
  generalize w.alloc (.cells #[.int .i64 day,.int .i64 f,.int .i64 t,.string band] 172) = W at HDV HBX HK hs0 HBG hgl l0 l1 l2 l3 ⊢
  clear z0 z1 z2 z3 z4 z5
  have hBXW:=HBX.out
  have hlx:=hBXW.lt
  have x0:=hBXW.cell 0
  have x1:=hBXW.cell 1
  have x2:=hBXW.cell 2
  have x3:=hBXW.cell 3
  simp only [nqg,nqh,nqi] at x0 x1 x2 x3
  clear hBXW
  go_cut [46] (fun v wx=>v = .bool (decide (ud = day∧ub = band∧ut = f))∧RowKit.Below W.heap.size W wx)
  case first =>
   by_cases c1:ud = day
   ·
    have e1:(ud == day) = true:=by simpa using c1
    by_cases c2:ub = band
    ·
     have e2:=beqS_true c2
     by_cases c3:ut = f
     ·
      have e3:(ut == f) = true:=by simpa using c3
      have HB:Hid (decide (ud = day∧ub = band∧ut = f) = true):=decide_eq_true ⟨c1,c2,c3⟩
      clear c1 c2 c3 HADD
      go_quiet (fail)
      go_wp2
      go_meet
      exact ⟨by rw [HB.out],below_drewN (Below.refl _ _) _⟩
     ·
      have e3:(ut == f) = false:=by simpa using c3
      have HB:Hid (decide (ud = day∧ub = band∧ut = f) = false):=decide_eq_false (fun e=>c3 e.2.2)
      clear c1 c2 c3 HADD
      go_quiet (fail)
      go_wp2
      go_meet
      exact ⟨by rw [HB.out],below_drewN (Below.refl _ _) _⟩
    ·
     have e2:=beqS_false c2
     have HB:Hid (decide (ud = day∧ub = band∧ut = f) = false):=decide_eq_false (fun e=>c2 e.2.1)
     clear c1 c2 HADD
     go_quiet (fail)
     go_wp2
     go_meet
     exact ⟨by rw [HB.out],below_drewN (Below.refl _ _) _⟩
   ·
    have e1:(ud == day) = false:=by simpa using c1
    have HB:Hid (decide (ud = day∧ub = band∧ut = f) = false):=decide_eq_false (fun e=>c1 e.1)
    clear c1 HADD
    go_quiet (fail)
    go_wp2
    go_meet
    exact ⟨by rw [HB.out],below_drewN (Below.refl _ _) _⟩
  case rest =>
   obtain ⟨rfl,hbc⟩:=hcut
   have hDc:=HDV.out.adv hbc
   have hXc:=HBX.out.adv hbc
   have hKc:=HK.out.trans (KeepT.adv hbc)
   have hBc:=HBG.out.adv hbc
   have hsc:=Nat.le_trans hs0 hbc.size
   have hfz:=hBc.frozen (m * 4+2)
   have y2:=hBc.cell (m * 4+2)
   rw [HC2.out] at y2
   have hlx2:=hXc.lt
   have HDV:=Lib.hid hDc
   have HBX:=Lib.hid hXc
   have HK:=Lib.hid hKc
   have hgl2:=hBc.lt
   have HBG2:=Lib.hid hBc
   clear x0 x1 x2 x3 l0 l1 l2 l3 hbc hDc hXc hKc hBc hs0 hgl hlx
   have hs0:=hsc
   clear hsc
   by_cases hc:ud = day∧ub = band∧ut = f
   ·
    have hd:decide (ud = day∧ub = band∧ut = f) = true:=decide_eq_true hc
    rw [if_pos hc] at HADD
    have hXc:=HBX.out
    have x0:=hXc.cell 0
    have x1:=hXc.cell 1
    have x2:=hXc.cell 2
    have x3:=hXc.cell 3
    simp only [nqg,nqh,nqi] at x0 x1 x2 x3
    rw [hd]
    have hset:=Own.setk encPc_len rfl HDV.out.pcs hlm ⟨ud,⟨uf,t⟩,ub⟩ 2 (.int .i64 t) (by omega) (by rw [HU.out]; rfl)
    have hD5:=HDV.out.setPc rfl hset
    have hK5:=HK.out.trans (KeepT.blk HBG2.out (.inr rfl) (only_setCell (only_refl wc (some g)) (p:=⟨g,m * 4+2,none⟩) (.inl rfl) (.int .i64 t)))
    have HD5:=Lib.hid hD5
    have HK5:=Lib.hid hK5
    clear hd hc hset hD5 hK5 hXc
    go_wp2
    go_end0
    refine ⟨rfl,⟨_,by rw [HADD.out]; exact HD5.out⟩,HK5.out,?_⟩
    rw [size_setC]; omega
   ·
    have hd:decide (ud = day∧ub = band∧ut = f) = false:=decide_eq_false hc
    rw [if_neg hc] at HADD
    rw [hd]
    clear hd hc y2 hfz
    go_upto_region 6 with fail
    generalize wc = W at HDV HBX HK hs0 HBG2 ⊢
    have hWb:=HDV.out.blk
    have hlt:=hWb.lt
    have hWx:=HBX.out
    have hlx:=hWx.lt
    have hgn:=HDV.out.ownNe
    have hgx:=HXO.out
    have hw0s:=HDV.out.bel.size
    have y0:=hWb.cell 0
    have y1:=hWb.cell 1
    have y2:=hWb.cell 2
    have y3:=hWb.cell 3
    have y4:=hWb.cell 4
    have y5:=hWb.cell 5
    simp only [nqg,nqh,nqi] at y0 y1 y2 y3 y4 y5
    have x0:=hWx.cell 0
    have x1:=hWx.cell 1
    have x2:=hWx.cell 2
    have x3:=hWx.cell 3
    simp only [nqg,nqh,nqi] at x0 x1 x2 x3
    clear hWb hWx
    refine wp_region_app (aE:=?aEB) (enc:=encPc) (e:=172) [0,1,2,3,4,5] 6 7 8 9 10 (⟨day,⟨f,t⟩,band⟩ : PcT) (bd) 5 (.tmp 58) 100 40 _ (.pointer (some ⟨bd,0,none⟩)) (by kernel_rfl) (by kernel_rfl) rfl (by kernel_rfl) (by rfl) rfl (by kernel_rfl) (by kernel_rfl) (by kernel_rfl) (by kernel_rfl) (by kernel_rfl) (by kernel_rfl) rfl rfl rfl rfl rfl rfl rfl rfl rfl rfl rfl rfl rfl rfl rfl rfl infoPc Tryz.underlying100 HDV.out.pcs HDV.out.blk encPc_len (by omega) rfl (encPc_one _) (by omega) (by omega) (by omega) hgn ?HB ?EaB ?EsB ?E1B ?E2B ?ExB ?MB
    case HB =>
     intro F hF inst
     simp only [M3.opsAt,List.getElem?_toArray,List.getElem?_cons_zero,List.getElem?_cons_succ]
     have e5:=BwC.cellG (F:=F) (a:=⟨bd,5,none⟩) (by exact hlt) hgn y5
     have d0:=BwC.cellG (F:=F) (a:=⟨w.heap.size,0,none⟩) (by exact hlx) hgx x0
     have d1:=BwC.cellG (F:=F) (a:=⟨w.heap.size,1,none⟩) (by exact hlx) hgx x1
     have d2:=BwC.cellG (F:=F) (a:=⟨w.heap.size,2,none⟩) (by exact hlx) hgx x2
     have d3:=BwC.cellG (F:=F) (a:=⟨w.heap.size,3,none⟩) (by exact hlx) hgx x3
     repeat (first | go_big_quiet_step (first | fail) | quiet_step (first | fail))
     refine wpQuiet_nil ?_
     rfl
    case EaB=>exact fun _=>by first | rfl | (go_simp; done) | (go_simp; rfl)
    case EsB=>exact fun _=>⟨rfl,rfl⟩
    case E1B=>exact fun _ _ _=>by first | rfl | go_simp
    case E2B=>exact fun _ _ _=>by first | rfl | go_simp
    case ExB =>
     intro uq Aq nq cq wq hBq
     have cq0:=hBq.cell 5
     have fq0:=hBq.frozen 5
     simp only [nqg,nqh,nqi] at cq0
     go_simp
    case MB =>
     intro u A2 c2 w2 hown2 hg2 halt
     try simp only [Act.put,List.setIfInBounds_toArray,List.set_cons_succ,List.set_cons_zero]
     have hne2:(Value.slice A2 (st.pcs.length+1) c2).ownBlock ≠ some bd:=by
      rcases halt with h | ⟨q,h1,h2⟩
      ·
       rw [h]; exact hgn
      ·
       rw [h2]; intro e; injection e with e; omega
     have hDn:=HDV.out.addPcs hown2 hg2 hne2
     have hs2:=hg2.size
     have hK3:=(HK.out.trans (KeepT.own HDV.out.pcs hg2)).trans (KeepT.blk (HDV.out.blk.grown hg2 (fun e=>hgn e.symm)) (.inl rfl) (only_setCell (only_refl w2 (some bd)) (p:=⟨bd,5,none⟩) (.inl rfl) (.slice A2 (st.pcs.length+1) c2)))
     have HDN:=Lib.hid hDn
     have HK3:=Lib.hid hK3
     clear hDn hK3 hown2 hg2 halt hne2
     go_wp2
     go_end0
     refine ⟨rfl,⟨_,by rw [HADD.out]; exact HDN.out⟩,HK3.out,?_⟩
     rw [size_setC]; omega
end
end Go.Proofs.YtopekilofdadnaaGreatDoor
