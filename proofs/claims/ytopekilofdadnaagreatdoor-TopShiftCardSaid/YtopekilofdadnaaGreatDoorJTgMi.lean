/- Joined texts: TgMi. Conditions: as stated. -/
import Derived.Test.YtopekilofdadnaaGreatDoorJTgMn
import Derived.Test.YtopekilofdadnaaGreatDoorJTgBn
import Derived.Test.YtopekilofdadnaaGreatDoorJTgZn
import Derived.Test.YtopekilofdadnaaGreatDoorJTgDy
namespace Go.Proofs.YtopekilofdadnaaGreatDoor
open Go.RowKit Go.Sort Go.Shelf
theorem prOk_each {hi:Int} : ∀ {P:List PresT} {lo:Int},0≤lo→prOk lo hi P→∀ p ∈ P,prOk 0 hi [p]
 | [],_,_,_,p,hp=>by cases hp
 | q :: P,lo,h0,h,p,hp=>by
  obtain ⟨h1,h2,h3,h4⟩:=h
  rcases List.mem_cons.1 hp with rfl | hp
  ·
   exact ⟨by omega,h2,h3,prOk_le h4⟩
  ·
   exact prOk_each (by omega) h4 p hp
theorem minN_nn {hi:Int} {p:PresT} (h:prOk 0 hi [p]) : 0≤minN p:=by
 obtain ⟨h1,h2⟩:=workN_ok h
 have:=sumIv_nn h1
 have e:minsN [p] = minN p:=by simp [minsN]
 omega
theorem minsN_nn {hi:Int} : ∀ {P:List PresT},(∀ p ∈ P,prOk 0 hi [p])→0≤minsN P
 | [],_=>Int.le_refl _
 | q :: P,h=>by
  have h1:=minsN_nn (P:=P) fun p hp=>h p (by simp [hp])
  have h2:=minN_nn (h q (by simp))
  have e:minsN (q :: P) = minN q+minsN P:=by simp [minsN]
  omega
theorem minsN_take (P:List PresT) (k:Nat) (h:k < P.length) : minsN (P.take (k+1)) = minsN (P.take k)+minN P[k]:=by
 unfold minsN
 rw [List.take_succ_eq_append_getElem h,List.map_append,List.sum_append]
 simp
theorem minsN_pre {hi:Int} {P:List PresT} (h : ∀ p ∈ P,prOk 0 hi [p]) (k:Nat) : 0≤minsN (P.take k)∧minsN (P.take k)≤minsN P:=by
 have h1:minsN P = minsN (P.take k)+minsN (P.drop k):=by
  conv=>lhs; rw [← List.take_append_drop k P]
  unfold minsN
  rw [List.map_append,List.sum_append]
 have h2:=minsN_nn (P:=P.take k) fun p hp=>h p (List.mem_of_mem_take hp)
 have h3:=minsN_nn (P:=P.drop k) fun p hp=>h p (List.mem_of_mem_drop hp)
 omega
theorem zoneG2 (b:Nat) (w:World) (hd:TapeIn w b) : Calls Tryz.prog 6 #[.pointer (some ⟨b,0,none⟩)] w fun e w' =>
  ∃ zo ZA zc zl,e = .returned (.agg #[.int .i64 zo,.slice ZA (List.length zl) zc])∧ZoneOk (ZoneM.mk zo ZA zc zl).t∧(∀ c ∈ zl,ChT.at_ c≤30000000)∧Own encCh 2 87 w' w.heap.size (.slice ZA zl.length zc) zl∧TapeIn w' b∧w.grownBy w' (some b) :=
 (zoneG b w hd).mono fun e w' h=>by
  obtain ⟨⟨zo,ZA,zc,zl⟩,rfl,h1,h2,h3,h4,h5⟩:=h
  exact ⟨zo,ZA,zc,zl,rfl,h1,h2,h3,h4,h5⟩
theorem bandsG2 (b:Nat) (w:World) (hd:TapeIn w b) : Calls Tryz.prog 17 #[.pointer (some ⟨b,0,none⟩),.bool false] w fun e w' =>
  ∃ bn bA bc bl bB bd bw,e = .returned (.agg #[.string bn,.slice bA (List.length bl) bc,.slice bB (List.length bw) bd])∧NameOk bn∧bl.length≤16∧bw.length≤16∧ascB (-1) bl∧ascB (-1) bw∧Own encBd 2 92 w' w.heap.size (.slice bA bl.length bc) bl∧Own encBd 2 92 w' w.heap.size (.slice bB bw.length bd) bw∧TapeIn w' b∧w.grownBy w' (some b) :=
 (bandsG b w hd).mono fun e w' h=>by
  obtain ⟨⟨bn,bA,bc,bl,bB,bd,bw⟩,rfl,h1,h2,h3,h4,h5,h6,h7,h8,h9⟩:=h
  exact ⟨bn,bA,bc,bl,bB,bd,bw,rfl,h1,h2,h3,h4,h5,h6,h7,h8,h9⟩
theorem Own.sl {α:Type} {enc:α→List Value} {k:Nat} {e:TypeId} {w:World} {base n c : Nat} {A:Option Addr} {xs:List α} (h:Own enc k e w base (.slice A n c) xs) (hk : ∀ x,(enc x).length = k) : SliceOf enc k w w.heap.size A xs:=by
 obtain ⟨A',c',hv,hs,_,_⟩:=h.form hk
 injection hv with e1 e2 e3
 subst e1
 exact hs
section
set_option maxHeartbeats 8000000
set_option maxRecDepth 100000
theorem minutes_walk (A:Option Addr) (c:Nat) (L:List Int) (w:World) (hS:SliceOf encI 1 w w.heap.size A L) (hl:L.length≤9223372036854775807) (h5 : ∀ x ∈ L,I64 x) (hL:Lens w) :
  Calls Tryz.prog 4 #[.slice A L.length c] w fun e w'=>e = .returned (.bool true)∧Below w.heap.size w w':=by
 go_enter Tryz.func4,Tryz.ntmps4
 go_wp2_with fail
 refine (newT A L c w hS hl h5).mono ?_
 rintro e w1 ⟨rfl,hd1,hb1⟩
 have hlt:=hd1.lt
 have HB1:=Lib.hid hb1
 have HLW:=Lib.hid hL
 generalize hb:w.heap.size = b at *
 have HW:=Lib.hid hb
 clear hS hl h5 hL hb1 hb
 go_wp2_with fail
 refine (daysG b w1 hd1).mono ?_
 rintro e w2 ⟨ve,l,rfl,hoe,hev,hll,hd2,hg2⟩
 have HEV:=Lib.hid hev
 have hs2:=hg2.size
 clear hev hd1
 go_wp2_with fail
 refine (planG b w2 hd2).mono ?_
 rintro e w3 ⟨vp,pl,rfl,hop,hpo,hpl,hd3,hg3⟩
 have hs3:=hg3.size
 have hoe3:=hoe.kept hg3 (fun q e=>by injection e; omega)
 have hgg3:=only_trans hg2 hg3
 have HPO:=Lib.hid hpo
 clear hoe hg2 hg3 hd2 hpo
 go_wp2_with fail
 refine (zoneG2 b w3 hd3).mono ?_
 rintro e w4 ⟨zo,ZA,zc,zl,rfl,hzo,_,hoz,hd4,hg4⟩
 have hs4:=hg4.size
 have HZO:=Lib.hid hzo
 have hoe4:=hoe3.kept hg4 (fun q e=>by injection e; omega)
 have hop4:=hop.kept hg4 (fun q e=>by injection e; omega)
 have hgg4:=only_trans hgg3 hg4
 clear hzo hg4 hd3 hoe3 hop hgg3
 go_wp2_with fail
 refine (pickN b w4 [60,0] _ _ _ rfl rfl hd4 (by simp) (by simp)).mono ?_
 rintro e w5 ⟨ea,rfl,hm5,hd5,hg5⟩
 have hs5:=hg5.size
 have hea:0≤ea∧ea≤1440:=by simp at hm5; omega
 have hoe5:=hoe4.kept hg5 (fun q e=>by injection e; omega)
 have hop5:=hop4.kept hg5 (fun q e=>by injection e; omega)
 have hoz5:=hoz.kept hg5 (fun q e=>by injection e; omega)
 have hgg5:=only_trans hgg4 hg5
 clear hg5 hd4 hoe4 hop4 hoz hgg4 hm5
 go_wp2_with fail
 refine (pickN b w5 [120,0] _ _ _ rfl rfl hd5 (by simp) (by simp)).mono ?_
 rintro e w6 ⟨la,rfl,hm6,hd6,hg6⟩
 have hs6:=hg6.size
 have hla:0≤la∧la≤1440:=by simp at hm6; omega
 have hoe6:=hoe5.kept hg6 (fun q e=>by injection e; omega)
 have hop6:=hop5.kept hg6 (fun q e=>by injection e; omega)
 have hoz6:=hoz5.kept hg6 (fun q e=>by injection e; omega)
 have hgg6:=only_trans hgg5 hg6
 clear hg6 hd5 hoe5 hop5 hoz5 hgg5 hm6
 go_wp2_with fail
 refine (bandsG2 b w6 hd6).mono ?_
 rintro e w7 ⟨bn,bA,bc,bl,bB,bd,bw,rfl,hnm,hbl,hbw,hba,hbb,hobl,hobw,_,hg7⟩
 have hs7:=hg7.size
 have hoe7:=hoe6.kept hg7 (fun q e=>by injection e; omega)
 have hop7:=hop6.kept hg7 (fun q e=>by injection e; omega)
 have hoz7:=hoz6.kept hg7 (fun q e=>by injection e; omega)
 have hgg7:=only_trans hgg6 hg7
 have HR:Hid (RulIn w7 ⟨⟨zo,ZA,zc,zl⟩,900,ea,la,0,⟨bn,bA,bc,bl,bB,bd,bw⟩⟩) :=
  ⟨hoz7.sl encCh_len,HZO.out,⟨hnm,hbl,hbw,hba,hbb,hobl.sl encBd_len,hobw.sl encBd_len⟩,(by show (1:Int)≤900∧(900:Int)≤10080; omega),hea,hla,(by show (0:Int)≤0∧(0:Int)≤120; omega)⟩
 obtain ⟨EA,ec,hv,hse,_,_⟩:=hoe7.form encEv_len
 subst hv
 obtain ⟨PA,pc,hv,hsp,_,_⟩:=hop7.form encSf_len
 subst hv
 have HSE:=Lib.hid hse
 have HSP:=Lib.hid hsp
 have hB8:=Blk.new w7 52 (rulV zo ZA zl.length zc 900 ea la 0 bn bA bl.length bc bB bw.length bd)
 have hbel8:=below_new w7 (.cells (rulV zo ZA zl.length zc 900 ea la 0 bn bA bl.length bc bB bw.length bd) 52)
 have hb1':=HB1.out
 rw [← HW.out] at hb1'
 have HBW7:Hid (Below w.heap.size w w7):=bel_only hb1' hgg7 (fun q e=>by injection e with e; have:=HW.out; omega)
 simp only [rulV] at hB8 hbel8
 clear hg7 hd6 hoe6 hop6 hoz6 hgg6 hoe7 hop7 hoz7 hgg7 hobl hobw hse hsp hnm hbl hbw hba hbb hea hla HB1 hb1'
 go_upto_region 4 with fail
 generalize w7.alloc (Obj.cells _ _) = w8 at hB8 hbel8 ⊢
 have HBW8:=Lib.hid (bel_adv HBW7.out hbel8)
 have HL8:=Lib.hid (HLW.out.adv HBW8.out)
 have hEV:=evIn_of (w:=w8) (r:=⟨⟨zo,ZA,zc,zl⟩,900,ea,la,0,⟨bn,bA,bc,bl,bB,bd,bw⟩⟩) (B:=PA) (plan:=pl) (A:=EA) (l:=l) (emp:=1) (HR.out.adv hbel8) (HSP.out.adv hbel8) HPO.out (by omega) (HSE.out.adv hbel8) (HEV.out.evs (by omega)) (by show (900:Int)≤900; omega) HEV.out.n1 (Nat.le_trans HEV.out.n2 (by omega)) (adj_of_zero rfl)
 have HEI:=Lib.hid hEV.1
 have HEM:=Lib.hid hEV.2
 have HB8:=Lib.hid hB8
 have hbl8:=hB8.lt
 have HEO:=Lib.hid (HEV.out.evs (show l.length≤1024 by omega))
 clear HBW7 HSE HSP HR HEV hbel8 hEV hs2 hs3 hs4 hs5 hs6 hs7 hlt
 generalize w7.heap.size = g at *
 have a0:=hB8.cell 0
 have a1:=hB8.cell 1
 have a2:=hB8.cell 2
 have a3:=hB8.cell 3
 have a4:=hB8.cell 4
 have a5:=hB8.cell 5
 have a6:=hB8.cell 6
 have a7:=hB8.cell 7
 have a8:=hB8.cell 8
 have a9:=hB8.cell 9
 have a10:=hB8.cell 10
 have a11:=hB8.cell 11
 have a12:=hB8.cell 12
 have a13:=hB8.cell 13
 simp only [nqg,nqh,nqi] at a0 a1 a2 a3 a4 a5 a6 a7 a8 a9 a10 a11 a12 a13
 clear hB8
 go_wp2_with fail
 refine (evalH ⟨⟨zo,ZA,zc,zl⟩,900,ea,la,0,⟨bn,bA,bc,bl,bB,bd,bw⟩⟩ PA pc pl EA ec l 1 0 84005 w8 HEI.out HL8.out (by omega) (by omega) (by omega)).mono ?_
 rintro e w9 ⟨hb9,hcase⟩
 have hB9:=HB8.out.adv hb9
 have HBW9:=Lib.hid (bel_adv HBW8.out hb9)
 have HL9:=Lib.hid (HLW.out.adv HBW9.out)
 have HSP9:=Lib.hid (HEI.out.pS.adv hb9)
 have HSE9:=Lib.hid (HEI.out.eS.adv hb9)
 have HZ9:=Lib.hid (HEI.out.rul.z.adv hb9)
 have hbl9:=hB9.lt
 clear a0 a1 a2 a3 a4 a5 a6 a7 a8 a9 a10 a11 a12 a13 hb9
 obtain ⟨se,hSE⟩ : ∃ se,spErr (ZoneM.mk zo ZA zc zl).t none pl = se:=⟨_,rfl⟩
 have HSER:=Lib.hid hSE
 have e1:spErr (RulM.mk ⟨zo,ZA,zc,zl⟩ 900 ea la 0 ⟨bn,bA,bc,bl,bB,bd,bw⟩).z.t none pl = se:=hSE
 rw [e1] at hcase
 clear e1 hSE
 rcases hcase with ⟨hne,rfl⟩ | ⟨h0,RA,rc,rows,rfl,hrt,hSR,hin⟩
 ·
  have hne1:(se != 0) = true:=by simpa using hne
  have hne2:(se == 0) = false:=by simpa using hne
  have a0:=hB9.cell 0
  have a1:=hB9.cell 1
  have a2:=hB9.cell 2
  have a3:=hB9.cell 3
  have a4:=hB9.cell 4
  have a5:=hB9.cell 5
  have a6:=hB9.cell 6
  have a7:=hB9.cell 7
  have a8:=hB9.cell 8
  have a9:=hB9.cell 9
  have a10:=hB9.cell 10
  have a11:=hB9.cell 11
  have a12:=hB9.cell 12
  have a13:=hB9.cell 13
  simp only [nqg,nqh,nqi] at a0 a1 a2 a3 a4 a5 a6 a7 a8 a9 a10 a11 a12 a13
  clear hB9 hne
  go_wp2_with fail
  refine (planE ⟨zo,ZA,zc,zl⟩ PA pc pl w9 HZO.out HZ9.out HSP9.out HPO.out (by omega)).mono ?_
  rintro e w10 ⟨rfl,hb10⟩
  rw [HSER.out]
  have HBW10:=Lib.hid (bel_adv HBW9.out hb10)
  have HL10:=Lib.hid (HLW.out.adv HBW10.out)
  clear a0 a1 a2 a3 a4 a5 a6 a7 a8 a9 a10 a11 a12 a13 hb10
  go_wp2_with fail
  refine (timedT w10 HL10.out).mono ?_
  rintro e w11 ⟨rfl,hb11⟩
  go_wp2
  go_ret
  exact ⟨rfl,bel_adv HBW10.out hb11⟩
 ·
  subst h0
  have hm:=HEM.out HSER.out
  obtain ⟨hrok,hsum⟩:=rows_ok (B:=PA) (A:=EA) (l:=l) (plan:=pl) HEI.out HSER.out hll hm.1 hrt
  have HROK:=Lib.hid hrok
  have HSUM:Hid (sumDays (rows.map RowM.t) = minsN (pairN 900 (effN l 1)).1):=hsum
  have HMM:Hid (minsN (pairN 900 (effN l 1)).1≤3600∧0≤minsN (pairN 900 (effN l 1)).1):=hm
  have HSR:=Lib.hid hSR
  have HIN:=Lib.hid hin
  clear hB9 hbl9 hm hrok hsum hrt hSR hin
  go_wp2_with fail
  refine (effectiveI EA ec l 1 w9 HSE9.out HEO.out).mono ?_
  rintro e w10 ⟨TA,tc,rfl,hst,hb10⟩
  have HBW10:=Lib.hid (bel_adv HBW9.out hb10)
  have HSR10:=Lib.hid (HSR.out.adv hb10)
  have HIN10:Hid (∀ x ∈ rows,x.In w10):=fun x hx=>(HIN.out x hx).adv hb10
  have hsto:StOk (effN l 1):=by
   obtain ⟨s1,s2,s3,_⟩:=eff_ok (emp:=1) HEO.out.ok
   exact ⟨by omega,s1,s2⟩
  clear hb10 HSR HIN
  go_wp2_with fail
  refine (pairP TA tc 900 (effN l 1) w10 hst hsto (by omega)).mono ?_
  rintro e w11 ⟨QA,qc,NA,nc,ps,rfl,hps,hsq,hqin,_,hb11⟩
  have HBW11:=Lib.hid (bel_adv HBW10.out hb11)
  have HSR11:=Lib.hid (HSR10.out.adv hb11)
  have HIN11:Hid (∀ x ∈ rows,x.In w11):=fun x hx=>(HIN10.out x hx).adv hb11
  have HEACH:Hid (∀ p ∈ (pairN 900 (effN l 1)).1,prOk 0 120968640 [p]):=prOk_each (Int.le_refl _) (pres_ok (L:=900) HEO.out.ok).1
  have HBR:Hid (∀ p ∈ (pairN 900 (effN l 1)).1,p.br.length≤16):=HEI.out.br
  have HPS:=Lib.hid hps
  have HSQ:=Lib.hid hsq
  have HQIN:=Lib.hid hqin
  have hpl':ps.length≤1000:=by
   have h1:=congrArg List.length hps
   rw [List.length_map] at h1
   have h2:=(pres_ok (L:=900) (emp:=1) HEO.out.ok).2.2.2
   have h3:(l.filter fun e=>decide (e.kind = 1)).length≤l.length:=List.length_filter_le _ _
   omega
  generalize hPP:(pairN 900 (effN l 1)).1 = P at *
  clear hb11 HSR10 HIN10 hst hsto hps hsq hqin hPP HEO HEI HEM
  go_wp2
  go_loopw [14,15] (fun n i wr=>∃ k:Nat,k≤ps.length∧i = .int .i64 k∧n = .int .i64 (minsN (P.take k))∧Below w11.heap.size w11 wr) (fun _ i _=>ps.length - (RowKit.intOf i).toNat)
  case atStart=>exact ⟨0,by omega,rfl,rfl,Below.refl _ _⟩
  case round =>
   obtain ⟨k,hk,rfl,rfl,hbr⟩:=hrel
   have hpre:=minsN_pre HEACH.out k
   have hmm:=HMM.out
   have hPl:P.length = ps.length:=by have:=congrArg List.length HPS.out; rw [List.length_map] at this; exact this.symm
   by_cases hlt:k < ps.length
   ·
    have hkP:k < P.length:=by omega
    have hE:P[k] = ps[k].p:=by
     have:=List.getElem_map (f:=PresM.p) (l:=ps) (i:=k) (h:=by rw [List.length_map]; exact hlt)
     rw [← this]
     congr 1
     exact HPS.out.symm
    have hpre2:=minsN_pre HEACH.out (k+1)
    have htk:=minsN_take P k hkP
    rw [hE] at htk
    have hmem:=List.getElem_mem hlt
    have hpm:ps[k].p ∈ P:=by rw [← hE]; exact List.getElem_mem hkP
    have hok:=HEACH.out _ hpm
    have hbrk:ps[k].br.length≤1024:=Nat.le_trans (HBR.out _ hpm) (by omega)
    have hxin:=(HQIN.out _ hmem).adv hbr
    obtain ⟨q,off,rfl,hq,hc⟩:=(HSQ.out.below hbr).at_ hlt
    have c0:=hc 0 _ rfl
    have c1:=hc 1 _ rfl
    have c2:=hc 2 _ rfl
    simp only [Nat.add_zero] at c0
    have HMN:=Lib.hid (minutesP ps[k] wr hxin hok hbrk)
    have HTK:=Lib.hid htk
    have hkk:(k:Int) < (ps.length:Int):=by omega
    have hqw:q < wr.heap.size:=by have:=hbr.size; omega
    have HPR:=Lib.hid hpre
    have hb1:0≤minsN (P.take k)+minN ps[k].p∧minsN (P.take k)+minN ps[k].p≤3600:=by rw [← htk]; omega
    clear hc hE hpre2 htk hpm hok hbrk hxin hmem hmm
    go_wp2_with fail
    refine HMN.out.mono ?_
    rintro e w12 ⟨rfl,hb12⟩
    go_wp2
    go_roundw
    case rel=>exact ⟨k+1,by omega,by go_num,by rw [HTK.out],bel_adv hbr hb12⟩
    case measure=>simp [RowKit.intOf]; omega
   ·
    obtain rfl:k = ps.length:=by omega
    have hfull:P.take ps.length = P:=by rw [← hPl,List.take_length]
    rw [hfull]
    rw [hfull] at hpre
    have HSRr:=Lib.hid (HSR11.out.adv hbr)
    have HINr:Hid (∀ x ∈ rows,x.In wr):=fun x hx=>(HIN11.out x hx).adv hbr
    have HBWr:=Lib.hid (bel_adv HBW11.out hbr)
    clear hfull hbr hPl
    go_wp2_with fail
    refine (sumJ RA rc rows wr HSRr.out HINr.out HROK.out).mono ?_
    rintro e w12 ⟨UA,uc,ts,rfl,hsu,hsumt,hmin,htl,hb12⟩
    have HBW12:=Lib.hid (bel_adv HBWr.out hb12)
    have HSU:=Lib.hid hsu
    have HMIN:=Lib.hid hmin
    have HE:Hid (sumTm ts = minsN P):=hsumt.trans HSUM.out
    clear hb12 hsu hsumt hmin HSRr HINr hpre
    go_wp2
    go_loopw [14,17] (fun n i wr2=>∃ k:Nat,k≤ts.length∧i = .int .i64 k∧n = .int .i64 (minsN P - sumTm (ts.take k))∧Below w12.heap.size w12 wr2) (fun _ i _=>ts.length - (RowKit.intOf i).toNat)
    case atStart=>exact ⟨0,by omega,rfl,by simp [sumTm],Below.refl _ _⟩
    case round =>
     obtain ⟨k,hk,rfl,rfl,hbr⟩:=hrel
     have hmm:=HMM.out
     by_cases hlt:k < ts.length
     ·
      have hmem:=List.getElem_mem hlt
      have hp1:=sumTm_pre (fun t ht=>HMIN.out t ht) k
      have hp2:=sumTm_pre (fun t ht=>HMIN.out t ht) (k+1)
      have htk:=sumTm_take ts k hlt
      have he:=HE.out
      obtain ⟨q,off,rfl,hq,hc⟩:=(HSU.out.below hbr).at_ hlt
      have c0:=hc 0 _ rfl
      have c1:=hc 1 _ rfl
      simp only [Nat.add_zero] at c0
      have HTK:=Lib.hid htk
      have hkk:(k:Int) < (ts.length:Int):=by omega
      have hqw:q < wr.heap.size:=by have:=hbr.size; omega
      have hb1:0≤minsN P - sumTm (ts.take k) - ts[k].min∧minsN P - sumTm (ts.take k) - ts[k].min≤3600:=by omega
      have hb2:0≤minsN P - sumTm (ts.take k)∧minsN P - sumTm (ts.take k)≤3600:=by omega
      clear hc hp1 hp2 htk hmem hmm he
      go_wp2
      go_roundw
      case rel=>exact ⟨k+1,by omega,by go_num,by rw [HTK.out]; congr 1; omega,hbr⟩
      case measure=>simp [RowKit.intOf]; omega
     ·
      obtain rfl:k = ts.length:=by omega
      have h0:minsN P - sumTm (ts.take ts.length) = 0:=by rw [List.take_length,HE.out]; omega
      rw [h0]
      have HBWe:=Lib.hid (bel_adv HBW12.out hbr)
      have HLe:=Lib.hid (HLW.out.adv HBWe.out)
      clear h0 hbr
      go_wp2_with fail
      refine (timedT _ HLe.out).mono ?_
      rintro e w13 ⟨rfl,hb13⟩
      go_wp2
      go_ret
      exact ⟨rfl,bel_adv HBWe.out hb13⟩
end
end Go.Proofs.YtopekilofdadnaaGreatDoor
