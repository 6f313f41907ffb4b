/- Joined texts: TgY TgM4. Conditions: as stated. -/
import Derived.Test.YtopekilofdadnaaGreatDoorJTgC3
import Derived.Test.YtopekilofdadnaaGreatDoorJTgI2
import Derived.Test.YtopekilofdadnaaGreatDoorJTgO
import Derived.Test.YtopekilofdadnaaGreatDoorJTgZ6
import Derived.Test.YtopekilofdadnaaGreatDoorJTgR2
import Derived.Test.YtopekilofdadnaaGreatDoorJTgM3
namespace Go.Proofs.YtopekilofdadnaaGreatDoor
open Go.RowKit Go.Sort Go.Shelf
structure DutyPl (z:ZoneT) (plan:List ShiftT) (sn:Int) (d:DutyT) : Prop where
 sh : -1≤d.shift∧d.shift < plan.length
 ok:prOk 0 120968640 d.ps
 len:d.ps.length≤64
 br:∀ p ∈ d.ps,p.br.length≤16
 adj:planOf z plan d.shift ≠ ⟨0,0⟩→∀ p ∈ d.ps,(nearB p.stay.f (planOf z plan d.shift).f sn→(planOf z plan d.shift).f = p.stay.f)∧(nearB p.stay.t (planOf z plan d.shift).t sn→(planOf z plan d.shift).t = p.stay.t)
 pl:planOf z plan d.shift = ⟨0,0⟩ ∨ (0≤(planOf z plan d.shift).f∧(planOf z plan d.shift).f < (planOf z plan d.shift).t∧(planOf z plan d.shift).t≤120968640)
 tot:sumIv (staysN d.ps)≤100000
theorem DutyPl.ok_ {z:ZoneT} {plan:List ShiftT} {sn:Int} {w:World} {base:Nat} {v:Value} {ds:List DutyM} {i:Nat} (hi:i < ds.length) (h:DutyPl z plan sn ds[i].t) (hD:DutiesAt w base v ds) : DutyOk w ds[i] sn (planOf z plan ds[i].s).f (planOf z plan ds[i].s).t:=by
 have hl:ds[i].ps.length≤64:=by have:=h.len; simpa [DutyM.t] using this
 have hb:∀ p ∈ ds[i].ps,p.br.length≤16:=fun p hp=>h.br p.p (List.mem_map_of_mem hp)
 refine ⟨⟨?_,fun x hx=>?_,h.ok,by omega,fun p hp=>by have:=hb p hp; omega⟩,hl,hb,fun hne p hp=>?_,?_,h.tot⟩
 ·
  obtain ⟨A,c,hv,hs,_⟩:=(hD.ps i hi).form encPr_len
  injection hv with hv
  rw [hv]
  exact hs
 ·
  obtain ⟨A,c,hv,hs,_⟩:=(hD.br i hi x hx).form encIv_len
  injection hv with hv
  show SliceOf encIv 2 w w.heap.size x.A x.br
  rw [hv]
  exact hs
 ·
  exact h.adj hne p.p (List.mem_map_of_mem hp)
 ·
  rcases h.pl with h | h
  ·
   exact .inl ⟨by show (planOf z plan ds[i].t.shift).f = 0; rw [h],by show (planOf z plan ds[i].t.shift).t = 0; rw [h]⟩
  ·
   exact .inr h
def WorksPost (z:ZoneT) (plan:List ShiftT) (D:List DutyT) (an:List AnomT) (w:World) (e:Ending) (w' : World) : Prop :=
 Below w.heap.size w w'∧((spErr z none plan ≠ 0∧e = .returned (.tuple #[.slice none 0 0,.slice none 0 0,.int .i64 (spErr z none plan)])) ∨
  (spErr z none plan = 0∧∃ A c Ws B d,e = .returned (.tuple #[.slice A (List.length Ws) c,.slice B an.length d,.int .i64 0])∧Ws.map WorkM.t = worksN D∧WorksIn w' A Ws∧SliceOf encAn 2 w' w'.heap.size B an))
theorem worksN_take (D:List DutyT) (k:Nat) (h:k < D.length) : worksN (D.take (k+1)) = worksN (D.take k)++if (workN D[k].ps).isEmpty then [] else [⟨D[k].day,workN D[k].ps⟩]:=by
 unfold worksN
 rw [List.take_succ_eq_append_getElem h,List.map_append,List.filter_append]
 congr 1
 simp only [List.map_cons,List.map_nil,List.filter_cons,List.filter_nil]
 cases (workN D[k].ps).isEmpty <;> rfl
section
set_option maxHeartbeats 8000000
set_option maxRecDepth 100000
theorem worksT (r:RulM) (B:Option Addr) (d:Nat) (plan:List ShiftT) (A:Option Addr) (c:Nat) (l:List EvT) (emp:Int) (w:World) (hr:RulIn w r) (hP:SliceOf encSf 3 w w.heap.size B plan) (hp : ∀ s ∈ plan,ShiftOk s) (hl:plan.length≤1024)
  (hS:SliceOf encEv 7 w w.heap.size A l) (he:EvsOk l) (hb:∀ p ∈ (pairN r.lo (effN l emp)).1,p.br.length≤16)
  (hD:spErr r.z.t none plan = 0→(∀ x ∈ assignN r.z.t plan (plan.map (spOf r.z.t)) r.ea r.la (pairN r.lo (effN l emp)).1,DutyPl r.z.t plan r.sn x)∧∀ s ∈ plan,begN r.z.t s+s.min≤120968640) :
  Calls Tryz.prog 25 #[r.val,.slice B plan.length d,.slice A l.length c,.int .i64 emp] w (WorksPost r.z.t plan (assignN r.z.t plan (plan.map (spOf r.z.t)) r.ea r.la (pairN r.lo (effN l emp)).1) (pairN r.lo (effN l emp)).2 w):=by
 have HR:=Lib.hid hr
 have HP:=Lib.hid hp
 have HEV:=Lib.hid he
 have HBR:=Lib.hid hb
 have HD:=Lib.hid hD
 obtain ⟨hst,hasc,hlen,_⟩:=eff_ok (emp:=emp) he.ok
 have HST:=Lib.hid (StOk.mk (l:=effN l emp) (by have:=he.len; omega) hst hasc)
 obtain ⟨hpo,_,_,hplen⟩:=pres_ok (emp:=emp) (L:=r.lo) he.ok
 have HPO:=Lib.hid hpo
 have hplen2:(pairN r.lo (effN l emp)).1.length≤1024:=Nat.le_trans hplen (Nat.le_trans (List.length_filter_le _ _) he.len)
 obtain ⟨⟨zo,ZA,zc,zl⟩,lo,ea,la,sn,⟨bn,bA,bc,bl,bB,bd,bw⟩⟩:=r
 have HLO:Hid (1≤lo∧lo≤10080):=hr.lo
 have HEA:Hid (0≤ea∧ea≤1440):=hr.ea
 have HLA:Hid (0≤la∧la≤1440):=hr.la
 have HZO:Hid (ZoneOk (ZoneM.mk zo ZA zc zl).t):=hr.zo
 have hB0:=Blk.new w 52 (rulV zo ZA zl.length zc lo ea la sn bn bA bl.length bc bB bw.length bd)
 have hbel0:=below_new w (.cells (rulV zo ZA zl.length zc lo ea la sn bn bA bl.length bc bB bw.length bd) 52)
 clear hr hp he hb hD hst hasc hlen hpo hplen
 show Calls Tryz.prog 25 #[.agg (rulV zo ZA zl.length zc lo ea la sn bn bA bl.length bc bB bw.length bd),.slice B plan.length d,.slice A l.length c,.int .i64 emp] w _
 simp only [rulV] at hB0 hbel0 ⊢
 generalize hWW:w.alloc (.cells #[.int .i64 zo,.slice ZA zl.length zc,.int .i64 lo,.int .i64 ea,.int .i64 la,.int .i64 0,.int .i64 0,.int .i64 sn,.slice none 0 0,.string bn,.slice bA bl.length bc,.slice bB bw.length bd,.slice none 0 0,.slice none 0 0] 52) = W at hB0 hbel0
 have HWW:=Lib.hid hWW
 clear hWW
 go_enter Tryz.func25,Tryz.ntmps25
 go_wp2_with fail
 rw [HWW.out]
 refine (tsValidX ⟨⟨zo,ZA,zc,zl⟩,lo,ea,la,sn,⟨bn,bA,bc,bl,bB,bd,bw⟩⟩ _ (HR.out.adv hbel0)).mono ?_
 rintro e w1 ⟨rfl,hb1⟩
 have hB1:=hB0.adv hb1
 have hbel1:=bel_adv hbel0 hb1
 have a0:=hB1.cell 0
 have a1:=hB1.cell 1
 have a2:=hB1.cell 2
 have a3:=hB1.cell 3
 have a4:=hB1.cell 4
 have a5:=hB1.cell 5
 have a6:=hB1.cell 6
 have a7:=hB1.cell 7
 have a8:=hB1.cell 8
 have a9:=hB1.cell 9
 have a10:=hB1.cell 10
 have a11:=hB1.cell 11
 have a12:=hB1.cell 12
 have a13:=hB1.cell 13
 simp only [nqg,nqh,nqi] at a0 a1 a2 a3 a4 a5 a6 a7 a8 a9 a10 a11 a12 a13
 clear hb1 hB0 hbel0 HWW
 go_wp2_with fail
 refine (planE ⟨zo,ZA,zc,zl⟩ B d plan _ HZO.out (HR.out.z.adv hbel1) (hP.adv hbel1) HP.out hl).mono ?_
 rintro e w2 ⟨rfl,hb2⟩
 have hB2:=hB1.adv hb2
 have hbel2:=bel_adv hbel1 hb2
 clear a0 a1 a2 a3 a4 a5 a6 a7 a8 a9 a10 a11 a12 a13 hb2 hB1 hbel1
 by_cases h0:spErr (ZoneM.mk zo ZA zc zl).t none plan = 0
 rotate_left
 ·
  have hne:(spErr (ZoneM.mk zo ZA zc zl).t none plan != 0) = true:=by simpa using h0
  have hnq:(spErr (ZoneM.mk zo ZA zc zl).t none plan == 0) = false:=by simpa using h0
  have H0:=Lib.hid h0
  clear h0
  generalize hsp:spErr (ZoneM.mk zo ZA zc zl).t none plan = se at hne hnq
  have HSP:=Lib.hid hsp
  clear hsp
  go_wp2
  go_ret3
  exact ⟨hbel2,.inl ⟨H0.out,by rw [HSP.out]; rfl⟩⟩
 ·
  obtain ⟨hD,hbe⟩:=HD.out h0
  have HDD:=Lib.hid hD
  have HBE:=Lib.hid hbe
  have H0:=Lib.hid h0
  rw [h0]
  clear h0 hD hbe HD
  go_wp2_with fail
  refine (effectiveI A c l emp _ (hS.adv hbel2) HEV.out).mono ?_
  rintro e w3 ⟨A3,c3,rfl,hS3,hb3⟩
  have hB3:=hB2.adv hb3
  have hbel3:=bel_adv hbel2 hb3
  have a0:=hB3.cell 0
  have a1:=hB3.cell 1
  have a2:=hB3.cell 2
  have a3:=hB3.cell 3
  have a4:=hB3.cell 4
  have a5:=hB3.cell 5
  have a6:=hB3.cell 6
  have a7:=hB3.cell 7
  have a8:=hB3.cell 8
  have a9:=hB3.cell 9
  have a10:=hB3.cell 10
  have a11:=hB3.cell 11
  have a12:=hB3.cell 12
  have a13:=hB3.cell 13
  simp only [nqg,nqh,nqi] at a0 a1 a2 a3 a4 a5 a6 a7 a8 a9 a10 a11 a12 a13
  clear hb3 hB2 hbel2
  go_wp2_with fail
  refine (pairP A3 c3 lo _ _ hS3 HST.out HLO.out).mono ?_
  rintro e w4 ⟨A4,c4,B4,d4,ps,rfl,hps,hS4,hI4,hAn4,hb4⟩
  have hB4:=hB3.adv hb4
  have hbel4:=bel_adv hbel3 hb4
  clear a0 a1 a2 a3 a4 a5 a6 a7 a8 a9 a10 a11 a12 a13
  have a0:=hB4.cell 0
  have a1:=hB4.cell 1
  have a2:=hB4.cell 2
  have a3:=hB4.cell 3
  have a4:=hB4.cell 4
  have a5:=hB4.cell 5
  have a6:=hB4.cell 6
  have a7:=hB4.cell 7
  have a8:=hB4.cell 8
  have a9:=hB4.cell 9
  have a10:=hB4.cell 10
  have a11:=hB4.cell 11
  have a12:=hB4.cell 12
  have a13:=hB4.cell 13
  simp only [nqg,nqh,nqi] at a0 a1 a2 a3 a4 a5 a6 a7 a8 a9 a10 a11 a12 a13
  have hpl:ps.length≤1024:=by
   have:=congrArg List.length hps
   rw [List.length_map] at this
   rw [this]; exact hplen2
  have hPR:PrsIn w4 A4 ps:=⟨hS4,hI4,by rw [hps]; exact HPO.out,hpl,fun x hx=>by have:=HBR.out x.p (by rw [← hps]; exact List.mem_map_of_mem hx); have:x.br.length≤16:=this; omega⟩
  have HPR:=Lib.hid hPR
  have HPS:=Lib.hid hps
  clear hb4 hB3 hbel3 hS4 hI4 hPR hps hS3
  go_wp2_with fail
  refine (assignS ⟨zo,ZA,zc,zl⟩ B d plan A4 c4 ps ea la _ HZO.out (HR.out.z.adv hbel4) (hP.adv hbel4) HP.out hl H0.out HPR.out HEA.out HLA.out).mono ?_
  rintro e w5 ⟨A5,c5,ds,rfl,hds,hDu,hdl,hb5⟩
  have hB5:=hB4.adv hb5
  have hbel5:=bel_adv hbel4 hb5
  have hAn5:=hAn4.adv hb5
  rw [HPS.out] at hds
  have HDS:=Lib.hid hds
  have HDU:=Lib.hid hDu
  have hDu5:=hDu
  have hdl2:ds.length≤1024:=by rw [List.length_map] at hdl; omega
  clear a0 a1 a2 a3 a4 a5 a6 a7 a8 a9 a10 a11 a12 a13 hb5 hB4 hbel4 hds hDu hAn4 hdl
  go_wp2
  obtain ⟨hduok,_⟩:=assignN_ok (ZoneM.mk zo ZA zc zl).t plan (plan.map (spOf (ZoneM.mk zo ZA zc zl).t)) ea la _ [] 0 120968640 ⟨by simp,fun d hd=>(by cases hd),fun d hd=>(by cases hd),List.Pairwise.nil⟩ (by omega) HPO.out
  have hduok:DuOk 120968640 (ds.map DutyM.t):=by rw [HDS.out]; exact hduok
  have HDP:Hid (∀ (i:Nat) (h:i < ds.length),DutyPl (ZoneM.mk zo ZA zc zl).t plan sn ds[i].t):=fun i h=>HDD.out _ (by rw [← HDS.out]; exact List.mem_map_of_mem (List.getElem_mem h))
  have HDA:Hid (∀ (i k:Nat) (hi:i < ds.length) (hk:k < ds.length),i < k→apart (workN (ds[k].ps.map PresM.p)) (workN (ds[i].ps.map PresM.p))):=fun i k hi hk hik x hx y hy=>by
   have h1:=List.pairwise_iff_getElem.1 hduok.ap i k (by simpa using hi) (by simpa using hk) hik
   simp only [List.getElem_map] at h1
   have h2:=work_apart (hduok.pr _ (List.mem_map_of_mem (List.getElem_mem hi))) (hduok.pr _ (List.mem_map_of_mem (List.getElem_mem hk))) h1 y hy x hx
   exact h2.symm
  have HRP:Hid (∀ s ∈ plan,ShiftOk s∧begN (ZoneM.mk zo ZA zc zl).t s+s.min≤120968640):=fun s hs=>⟨HP.out s hs,HBE.out s hs⟩
  have HR5:=Lib.hid (HR.out.adv hbel5)
  have HPL5:=Lib.hid (hP.adv hbel5)
  have HAN:=Lib.hid hAn5
  have hB5l:=hB5.lt
  have HB5:=Lib.hid hB5
  obtain ⟨A0,c0,hv0,hS0,_,_⟩:=hDu5.row.form encDu_len
  injection hv0 with hv1 hv2 hv3
  subst hv1 hv3
  have HSD:=Lib.hid hS0
  clear hduok hAn5 hB5 hS0 hv2
  go_loopw [18,19,73] (fun v u i wr=>∃ (k:Nat) (V18 V19:Value) (Ws:List WorkM) (tk:List IvT),V18 = v∧V19 = u∧k≤ds.length∧i = .int .i64 k∧Own encWk 2 152 wr w5.heap.size V18 Ws∧Ws.length≤k∧Hid (Ws.map WorkM.t = worksN ((ds.take k).map DutyM.t))∧Own encIv 2 34 wr w5.heap.size V19 tk∧tk.length≤k * 65600∧Hid (∀ y ∈ tk,∃ (i:Nat) (h:i < ds.length),i < k∧y ∈ workN (ds[i].ps.map PresM.p))∧Hid (∀ x ∈ Ws,Own encIv 2 34 wr w5.heap.size (.slice x.A x.l.length x.c) x.l∧∀ g,(Value.slice x.A x.l.length x.c).ownBlock = some g→V19.ownBlock ≠ some g)∧RowKit.Below w5.heap.size w5 wr) (fun _ _ i _=>ds.length - (intOf i).toNat)
  case atStart=>exact ⟨0,_,_,[],[],rfl,rfl,by omega,rfl,Own.nil_ _ _,by simp,rfl,Own.nil_ _ _,by simp,fun y hy=>(by cases hy),fun x hx=>(by cases hx),Below.refl _ _⟩
  case round =>
   obtain ⟨k,V18,V19,Ws,tk,rfl,rfl,hk,rfl,how,hwlen,hE,hot,htlen,hTK,hWS,hbr⟩:=hrel
   have hbs:=hbr.size
   obtain ⟨WA,wc',hv18⟩:=how.slice encWk_len
   subst hv18
   obtain ⟨TA,tc,hv19⟩:=hot.slice encIv_len
   subst hv19
   by_cases hlt:k < ds.length
   ·
    have hpd:=HDP.out k hlt
    have hwo:=(workN_ok hpd.ok).1
    have HPD:=Lib.hid hpd
    have HAP:Hid (apart (workN (ds[k].ps.map PresM.p)) tk):=fun x hx y hy=>by
     obtain ⟨i,hi,hik,hyi⟩:=hTK.out y hy
     exact HDA.out i k hi hlt hik x hx y hyi
    have HTW:=Lib.hid (worksN_take (ds.map DutyM.t) k (by simpa using hlt))
    have HDK:=Lib.hid (HPD.out.ok_ hlt HDU.out)
    obtain ⟨q,off,rfl,hq,hc⟩:=(HSD.out.below hbr).at_ hlt
    have c0:=hc 0 _ rfl
    have c1:=hc 1 _ rfl
    have c2:=hc 2 _ rfl
    simp only [Nat.add_zero] at c0
    have hqw:q < wr.heap.size:=by omega
    have hki:(k:Int) < (ds.length:Int):=by omega
    have HBR:=Lib.hid hbr
    have hTK':=hTK
    clear hc hpd hTK
    generalize hx:ds[k] = x at c0 c1 c2 hwo HPD HAP HDK
    have HX:=Lib.hid hx
    clear hx
    rw [List.getElem_map,HX.out] at HTW
    obtain ⟨xs,xd,xA,xc,xp⟩:=x
    have c0:wr.cell? ⟨q,off+k * 3,none⟩ = some (.int .i64 xs):=c0
    have c1:wr.cell? ⟨q,off+k * 3+1,none⟩ = some (.int .i64 xd):=c1
    have c2:wr.cell? ⟨q,off+k * 3+2,none⟩ = some (.slice xA xp.length xc):=c2
    have hwo:brOk 0 120968640 (workN (xp.map PresM.p)):=hwo
    have HAP:Hid (apart (workN (xp.map PresM.p)) tk):=HAP
    have HTW:Hid (worksN ((ds.map DutyM.t).take (k+1)) = worksN ((ds.map DutyM.t).take k)++if (workN (xp.map PresM.p)).isEmpty then [] else [⟨xd,workN (xp.map PresM.p)⟩]):=HTW
    have HSH:Hid (-1≤xs∧xs < plan.length):=HPD.out.sh
    have hb6:=below_new wr (.cells #[.int .i64 xs,.int .i64 xd,.slice xA xp.length xc] 150)
    have HWO:=Lib.hid hwo
    have hBX:=Blk.new wr 150 #[.int .i64 xs,.int .i64 xd,.slice xA xp.length xc]
    have hbelA:=bel_adv hbr hb6
    have hBRul:=HB5.out.adv hbelA
    have HDK6:=Lib.hid (HDK.out.adv hbelA)
    have HR6:=Lib.hid (HR5.out.adv hbelA)
    have HP6:=Lib.hid (HPL5.out.adv hbelA)
    have hot6:=hot.adv hb6
    have how6:=how.adv hb6
    have HWS6:Hid (∀ x ∈ Ws,Own encIv 2 34 (wr.alloc (.cells #[.int .i64 xs,.int .i64 xd,.slice xA xp.length xc] 150)) w5.heap.size (.slice x.A x.l.length x.c) x.l):=fun x hx=>(hWS.out x hx).1.adv hb6
    have HOLD:Hid (∀ x ∈ Ws,∀ g,(Value.slice x.A x.l.length x.c).ownBlock = some g→g < wr.heap.size):=fun x hx g hg=>((hWS.out x hx).1.block_lt hg).2
    have HTO:Hid (∀ g,(Value.slice TA tk.length tc).ownBlock = some g→g < wr.heap.size):=fun g hg=>(hot.block_lt hg).2
    have HWO18:Hid (∀ g,(Value.slice WA Ws.length wc').ownBlock = some g→g < wr.heap.size):=fun g hg=>(how.block_lt hg).2
    clear hwo hot how
    go_upto_region 21 with fail
    generalize hb21:wr.heap.size = b21 at hBX HOLD HTO HWO18 ⊢
    generalize wr.alloc (.cells #[.int .i64 xs,.int .i64 xd,.slice xA xp.length xc] 150) = W6 at hb6 hBX hbelA hBRul HDK6 HR6 HP6 hot6 how6 HWS6 ⊢
    have hl6:=hBRul.lt
    have hx6:=hBX.lt
    have a0:=hBRul.cell 0
    have a1:=hBRul.cell 1
    have a2:=hBRul.cell 2
    have a3:=hBRul.cell 3
    have a4:=hBRul.cell 4
    have a5:=hBRul.cell 5
    have a6:=hBRul.cell 6
    have a7:=hBRul.cell 7
    have a8:=hBRul.cell 8
    have a9:=hBRul.cell 9
    have a10:=hBRul.cell 10
    have a11:=hBRul.cell 11
    have a12:=hBRul.cell 12
    have a13:=hBRul.cell 13
    simp only [nqg,nqh,nqi] at a0 a1 a2 a3 a4 a5 a6 a7 a8 a9 a10 a11 a12 a13
    have x0:=hBX.cell 0
    have x1:=hBX.cell 1
    have x2:=hBX.cell 2
    simp only [nqg,nqh,nqi] at x0 x1 x2
    clear c0 c1 c2 hqw hBX hBRul
    go_wp2_with fail
    refine (adjustT ⟨⟨zo,ZA,zc,zl⟩,lo,ea,la,sn,⟨bn,bA,bc,bl,bB,bd,bw⟩⟩ B d plan ⟨xs,xd,xA,xc,xp⟩ _ HR6.out HP6.out HRP.out HSH.out HDK6.out).mono ?_
    rintro e w7 ⟨A7,c7,rfl,hS7,hwl,_,hb7⟩
    simp only at hS7 hwl ⊢
    have HME:Hid (∀ y ∈ workN (xp.map PresM.p),∃ (i:Nat) (h:i < ds.length),i < k+1∧y ∈ workN (ds[i].ps.map PresM.p)):=fun y hy=>⟨k,hlt,by omega,by rw [HX.out]; exact hy⟩
    have HVL:Hid (∀ y ∈ workN (xp.map PresM.p),y.f < y.t):=fun y hy=>(brOk_in HWO.out y hy).2.1
    clear HWO HDK HDK6 HPD HX
    generalize workN (xp.map PresM.p) = L at HAP HTW hS7 hwl HME HVL ⊢
    have hS8:=hS7.advA (.cells #[.int .i64 xd,.slice A7 L.length c7] 152)
    have hb78:=bel_alloc hb7 (.cells #[.int .i64 xd,.slice A7 L.length c7] 152)
    have hBW:=Blk.new w7 152 #[.int .i64 xd,.slice A7 L.length c7]
    have hot8:=hot6.adv hb78
    have how8:=how6.adv hb78
    have hbel8:=bel_adv hbelA hb78
    have HWS8:Hid (∀ x ∈ Ws,Own encIv 2 34 (w7.alloc (.cells #[.int .i64 xd,.slice A7 L.length c7] 152)) w5.heap.size (.slice x.A x.l.length x.c) x.l):=fun x hx=>(HWS6.out x hx).adv hb78
    have hb21:b21≤w7.heap.size:=by have:=hb7.size; omega
    obtain ⟨TA0,tc0,hvt,hSt,_,_⟩:=hot8.form encIv_len
    injection hvt with hvt1 hvt2 hvt3
    subst hvt1 hvt3
    have HST8:=Lib.hid hSt
    clear hS7 hb7 hb78 hot6 how6 hbelA HWS6 hSt hvt2 a0 a1 a2 a3 a4 a5 a6 a7 a8 a9 a10 a11 a12 a13 x0 x1 x2 hx6 hl6
    go_upto_region 24 with fail
    generalize hg22:w7.heap.size = g22 at hBW hb21 ⊢
    generalize w7.alloc (.cells #[.int .i64 xd,.slice A7 L.length c7] 152) = W8 at hS8 hBW hot8 how8 hbel8 HWS8 HST8 ⊢
    have hg8:g22 < W8.heap.size:=hBW.lt
    have z0:=hBW.cell 0
    have z1:=hBW.cell 1
    simp only [nqg,nqh,nqi] at z0 z1
    have HBW:=Lib.hid hBW
    have HOT8:=Lib.hid hot8
    have HOW8:=Lib.hid how8
    have HBEL8:=Lib.hid hbel8
    clear hg22 hBW hot8 how8 hbel8
    go_wp2_with fail
    refine (subtractT A7 c7 L TA tc tk _ hS8 HST8.out (by omega) (by omega) HVL.out HAP.out).mono ?_
    rintro e w9 ⟨v9,rfl,hown9,hb9⟩
    obtain ⟨A9,c9,hv9⟩:=hown9.slice encIv_len
    subst hv9
    have hs9:=hb9.size
    have hW9:w9.grownBy (w9.setCell ⟨g22,1,none⟩ (.slice A9 L.length c9)) (some g22):=only_setCell (only_refl _ _) (.inl rfl) _
    have hBW9:=HBW.out.adv hb9
    have hfz:=hBW9.frozen 1
    have hgl9:=hBW9.lt
    have HBW9:Hid (Blk (w9.setCell ⟨g22,1,none⟩ (.slice A9 L.length c9)) g22 152 #[.int .i64 xd,.slice A9 L.length c9]):=hBW9.set_ 1 _
    have hne18:(Value.slice WA Ws.length wc').ownBlock ≠ some g22:=fun e=>by have:=HWO18.out _ e; omega
    have hneT:(Value.slice TA tk.length tc).ownBlock ≠ some g22:=fun e=>by have:=HTO.out _ e; omega
    have HOW9:=Lib.hid ((HOW8.out.adv hb9).keptNe hW9 (fun q' hq' e=>hne18 (by rw [hq',← e])))
    have HOT9:=Lib.hid ((HOT8.out.adv hb9).keptNe hW9 (fun q' hq' e=>hneT (by rw [hq',← e])))
    have HBEL9:=Lib.hid (bel_only (bel_adv HBEL8.out hb9) hW9 (fun g e=>by injection e with e; have:=HBR.out.size; omega))
    have HNEW:=Lib.hid ((hown9.weaken (base':=w5.heap.size) HBEL8.out.size).keptNe hW9 (fun q' hq' e=>by injection e with e; have:=(hown9.block_lt hq').1; omega))
    have HNG:Hid (∀ g,(Value.slice A9 L.length c9).ownBlock = some g→W8.heap.size≤g):=fun g hg=>(hown9.block_lt hg).1
    have HWS9:Hid (∀ x ∈ Ws,Own encIv 2 34 (w9.setCell ⟨g22,1,none⟩ (.slice A9 L.length c9)) w5.heap.size (.slice x.A x.l.length x.c) x.l):=fun x hx=>((HWS8.out x hx).adv hb9).keptNe hW9 (fun q' hq' e=>by injection e with e; have:=HOLD.out x hx q' hq'; omega)
    have y0:=hBW9.cell 0
    have y1:=hBW9.cell 1
    simp only [nqg,nqh,nqi] at y0 y1
    clear hown9 hb9 hW9 hBW9 z0 z1 HBW HOT8 HOW8 HBEL8 HWS8 hS8 HST8
    by_cases hL0:L = []
    ·
     have hTW:worksN ((ds.map DutyM.t).take (k+1)) = worksN ((ds.map DutyM.t).take k):=by rw [HTW.out,hL0]; simp
     have HTW2:Hid (Ws.map WorkM.t = worksN ((ds.take (k+1)).map DutyM.t)):=by rw [Hid,hE.out,List.map_take,List.map_take,hTW]
     have hl0:L.length = 0:=by rw [hL0]; rfl
     rw [hl0]
     rw [hl0] at HOW9 HOT9 HBEL9 HWS9 HBW9
     have HTK2:Hid (∀ y ∈ tk,∃ (i:Nat) (h:i < ds.length),i < k+1∧y ∈ workN (ds[i].ps.map PresM.p)):=fun y hy=>by
      obtain ⟨i,h1,h2,h3⟩:=hTK'.out y hy
      exact ⟨i,h1,by omega,h3⟩
     have HWF:Hid (∀ x ∈ Ws,Own encIv 2 34 (w9.setCell ⟨g22,1,none⟩ (.slice A9 0 c9)) w5.heap.size (.slice x.A x.l.length x.c) x.l∧∀ g,(Value.slice x.A x.l.length x.c).ownBlock = some g→(Value.slice TA tk.length tc).ownBlock ≠ some g):=fun x hx=>⟨HWS9.out x hx,(hWS.out x hx).2⟩
     clear hL0 hl0 hTW hE hne18 hneT
     go_wp2
     go_roundw
     case rel =>
      refine ⟨k+1,_,_,Ws,tk,rfl,rfl,?_,?_,?_,?_,HTW2,?_,?_,HTK2,HWF,?_⟩
      ·
       omega
      ·
       go_num
      ·
       exact HOW9.out
      ·
       omega
      ·
       exact HOT9.out
      ·
       exact Nat.le_trans htlen (Nat.mul_le_mul_right 65600 (Nat.le_succ k))
      ·
       exact HBEL9.out
     case measure=>simp [intOf]; omega
    ·
     have hlp:L.length ≠ 0:=fun e=>hL0 (List.length_eq_zero_iff.1 e)
     have hlq:((L.length:Int) == 0) = false:=by rw [beq_eq_false_iff_ne]; omega
     have hTW:worksN ((ds.map DutyM.t).take (k+1)) = worksN ((ds.map DutyM.t).take k)++[⟨xd,L⟩]:=by rw [HTW.out,if_neg (by simpa using hL0)]
     have HTW2:Hid ((Ws++[(⟨xd,A9,c9,L⟩ : WorkM)]).map WorkM.t = worksN ((ds.take (k+1)).map DutyM.t)):=by rw [Hid,List.map_append,hE.out,List.map_take,List.map_take,hTW]; rfl
     have HTK2:Hid (∀ y ∈ tk++L,∃ (i:Nat) (h:i < ds.length),i < k+1∧y ∈ workN (ds[i].ps.map PresM.p)):=fun y hy=>by
      rcases List.mem_append.1 hy with hy | hy
      ·
       obtain ⟨i,h1,h2,h3⟩:=hTK'.out y hy
       exact ⟨i,h1,by omega,h3⟩
      ·
       exact HME.out y hy
     clear hL0 hTW hE hlp
     go_upto_region 26 with fail
     have hw0:=HBEL9.out.size
     have HNLT:Hid (∀ g,(Value.slice A9 L.length c9).ownBlock = some g→W8.heap.size≤g∧g < (w9.setCell ⟨g22,1,none⟩ (.slice A9 L.length c9)).heap.size):=fun g hg=>⟨HNG.out g hg,(HNEW.out.block_lt hg).2⟩
     have hgl22:g22 < (w9.setCell ⟨g22,1,none⟩ (.slice A9 L.length c9)).heap.size:=HBW9.out.lt
     have hz:=HBW9.out
     generalize w9.setCell ⟨g22,1,none⟩ (.slice A9 L.length c9) = W9 at HBW9 HOW9 HOT9 HBEL9 HNEW HWS9 HNLT hw0 hgl22 hz ⊢
     clear y0 y1 hfz hgl9
     have y0:=hz.cell 0
     have y1:=hz.cell 1
     simp only [nqg,nqh,nqi] at y0 y1
     clear hz
     go_wp2_with (first
      | (at_builtin; (refine wpList_append_one_at _ _ 94 (⟨xd,A9,c9,L⟩ : WorkM) _ 32 _ infoWk Tryz.underlying94 HOW9.out encWk_len (by omega) rfl (encWk_one _) (by omega) (by omega) hw0 (by rfl) (by rfl) (by rfl) (by rfl) (by simp) (by rfl) ?_); intro v10 w10 hown10 hg10 halt10; have hB10:=HBW9.out.grown hg10 (fun e=>hne18 e.symm); have u0:=hB10.cell 0; have u1:=hB10.cell 1; simp only [nqg,nqh,nqi] at u0 u1; have hbl10:=hB10.lt; have HG10:=Lib.hid hg10; have HOW10:=Lib.hid hown10; have HOT10:=Lib.hid (HOT9.out.keptNe hg10 (fun q' hq' e=>HOT9.out.types HOW9.out (by decide) hq' e)); have HNEW10:=Lib.hid (HNEW.out.keptNe hg10 (fun q' hq' e=>HNEW.out.types HOW9.out (by decide) hq' e)); have hs10:=hg10.size; obtain ⟨NA,nc,hvn,hSn,_,_⟩:=HNEW10.out.form encIv_len; have HSN10:Hid (SliceOf encIv 2 w10 w10.heap.size A9 L):=(by injection hvn with hvn; rw [hvn]; exact hSn); clear hB10 hg10 hown10 hvn hSn y0 y1)
      | (at_builtin; go_loud (refine wpList_append_list_at (ys:=L) _ _ 79 c9 16 _ infoIv Tryz.underlying79 HOT10.out HSN10.out encIv_len (by omega) rfl encIv_one (by omega) (by omega) (by omega) (by rfl) (by rfl) (by rfl) (by rfl) (by rfl) ?_); intro v11 w11 hown11 hg11 halt11))
     obtain ⟨A11,c11,hv11⟩:=hown11.slice encIv_len
     subst hv11
     have hln11:(tk++L).length < 4611686018427387904:=by rw [List.length_append]; omega
     have HOW11:=Lib.hid (HOW10.out.keptNe hg11 (fun q' hq' e=>HOT10.out.types HOW10.out (by decide) e hq'))
     have hs11:=hg11.size
     have HOLT:Hid (∀ g,(Value.slice A11 (tk++L).length c11).ownBlock = some g→((Value.slice TA tk.length tc).ownBlock = some g ∨ w10.heap.size≤g)):=fun g hg=>by
      rcases halt11 with h | h
      ·
       rw [h] at hg
       exact .inl hg
      ·
       rw [h] at hg
       injection hg with hg
       exact .inr (by omega)
     have HB11:=Lib.hid (bel_only (bel_only HBEL9.out HG10.out (fun g hg=>(HOW9.out.block_lt hg).1)) hg11 (fun g hg=>(HOT10.out.block_lt hg).1))
     have HNEW11:=Lib.hid (HNEW10.out.keptNe hg11 (fun q' hq' e=>by have h1:=(HNLT.out q' hq').1; have h2:=HTO.out q' e; omega))
     have HWS11:Hid (∀ x ∈ Ws,Own encIv 2 34 w11 w5.heap.size (.slice x.A x.l.length x.c) x.l):=fun x hx=>(((HWS9.out x hx).keptNe HG10.out (fun q' hq' e=>(HWS9.out x hx).types HOW9.out (by decide) hq' e))).keptNe hg11 (fun q' hq' e=>(hWS.out x hx).2 q' hq' e)
     have HOWN11:=Lib.hid hown11
     have hsn10:=HG10.out.size
     clear hown11 hg11 halt11 HOW10 HOT10 HNEW10 HSN10 HOT9 HOW9 HBW9 HNEW HWS9
     refine (sortIvO A11 c11 _ _ _ HOWN11.out hln11).mono ?_
     rintro e w12 ⟨rfl,ys,hp,_,_,hg12,hown12⟩
     have hyl:=hp.length_eq
     rw [← hyl]
     rw [← hyl] at hown12 hg12 HOLT
     have HOW12:=Lib.hid (HOW11.out.keptNe hg12 (fun q' hq' e=>by
      have hq'2:(Value.slice A11 (tk++L).length c11).ownBlock = some q':=by rw [← hyl]; exact e
      exact HOWN11.out.types HOW11.out (by decide) hq'2 hq'))
     have HB12:=Lib.hid (bel_only HB11.out hg12 (fun g hg=>by
      have hq'2:(Value.slice A11 (tk++L).length c11).ownBlock = some g:=by rw [← hyl]; exact hg
      exact (HOWN11.out.block_lt hq'2).1))
     have HTK3:Hid (∀ y ∈ ys,∃ (i:Nat) (h:i < ds.length),i < k+1∧y ∈ workN (ds[i].ps.map PresM.p)):=fun y hy=>HTK2.out y (hp.mem_iff.1 hy)
     have HWF:Hid (∀ x ∈ Ws++[(⟨xd,A9,c9,L⟩ : WorkM)],Own encIv 2 34 w12 w5.heap.size (.slice x.A x.l.length x.c) x.l∧∀ g,(Value.slice x.A x.l.length x.c).ownBlock = some g→(Value.slice A11 ys.length c11).ownBlock ≠ some g):=fun x hx=>by
      rcases List.mem_append.1 hx with hx | hx
      ·
       have hne:∀ g,(Value.slice x.A x.l.length x.c).ownBlock = some g→(Value.slice A11 ys.length c11).ownBlock ≠ some g:=fun g hg e=>by
        have h1:=HOLD.out x hx g hg
        rcases HOLT.out g e with h | h
        ·
         exact (hWS.out x hx).2 g hg h
        ·
         have:=HBEL9.out.size
         omega
       exact ⟨(HWS11.out x hx).keptNe hg12 (fun q' hq' e=>hne q' hq' e),hne⟩
      ·
       rw [List.mem_singleton] at hx
       subst hx
       have hne:∀ g,(Value.slice A9 L.length c9).ownBlock = some g→(Value.slice A11 ys.length c11).ownBlock ≠ some g:=fun g hg e=>by
        have h1:=HNLT.out g hg
        rcases HOLT.out g e with h | h
        ·
         have:=HTO.out g h
         omega
        ·
         omega
       exact ⟨HNEW11.out.keptNe hg12 (fun q' hq' e=>hne q' hq' e),hne⟩
     have HOT12:=Lib.hid hown12
     have htl:ys.length≤(k+1) * 65600:=by
      rw [Nat.succ_mul,hyl,List.length_append]
      omega
     clear hyl hp hg12 hown12 hlq
     go_wp2
     go_roundw
     case rel =>
      refine ⟨k+1,_,_,Ws++[⟨xd,A9,c9,L⟩],ys,rfl,rfl,?_,?_,HOW12.out,?_,HTW2,HOT12.out,htl,HTK3,HWF,HB12.out⟩
      ·
       omega
      ·
       go_num
      ·
       rw [List.length_append,List.length_singleton]; omega
     case measure=>simp [intOf]; omega
   ·
    obtain rfl:k = ds.length:=by omega
    have hE2:=hE.out
    rw [List.take_length,HDS.out] at hE2
    have HE2:=Lib.hid hE2
    have HOW:=Lib.hid how
    have HWS:=hWS
    have hbf:=bel_adv hbel5 hbr
    have HANF:=Lib.hid (HAN.out.adv hbr)
    clear hE hE2 how hot hTK
    go_wp2
    go_ret3
    obtain ⟨WA2,wc2,hv,hSw,_,_⟩:=HOW.out.form encWk_len
    injection hv with hv1 hv2 hv3
    subst hv1 hv3
    refine ⟨hbf,.inr ⟨H0.out,WA,wc',Ws,B4,d4,rfl,HE2.out,⟨hSw,fun x hx=>?_⟩,HANF.out⟩⟩
    obtain ⟨A',c',hv,hs,_⟩:=(HWS.out x hx).1.form encIv_len
    injection hv with hv
    rw [hv]
    exact hs
end
end Go.Proofs.YtopekilofdadnaaGreatDoor
namespace Go.Proofs.YtopekilofdadnaaGreatDoor
open Go.RowKit Go.Maps Go.Sort Go.Shelf
structure CntIn (w0 w : World) (t27:TypeId) (q gy gd gw gc N : Nat) (cs:Array Value) : Prop where
 alm:AlmIn w w0.heap.size q gy gd N
 win:MapC keyI w gw N (.int .i64 0)
 cnt:MapC keyI w gc N (.agg #[.int .i64 0,.int .i64 0,.int .i64 0,.int .i64 0,.int .i64 0,.int .i64 0,.int .i64 0,.int .i64 0,.int .i64 0,.int .i64 0,.int .i64 0,.int .i64 0,.int .i64 0,.int .i64 0,.int .i64 0,.int .i64 0])
 zb:Blk w w0.heap.size t27 cs
 nq:q ≠ gw∧q ≠ gc
 nw:gw ≠ gy∧gw ≠ gd
 nc:gc ≠ gy∧gc ≠ gd∧gc ≠ gw
 lw:w0.heap.size≤gw∧w0.heap.size≤gc∧w0.heap.size < q
 bel:Below w0.heap.size w0 w
theorem CntIn.adv {w0 w w' : World} {t27:TypeId} {q gy gd gw gc N : Nat} {cs:Array Value} (h:CntIn w0 w t27 q gy gd gw gc N cs) (hb:Below w.heap.size w w') : CntIn w0 w' t27 q gy gd gw gc N cs :=
 ⟨h.alm.adv hb,h.win.adv hb,h.cnt.adv hb,h.zb.adv hb,h.nq,h.nw,h.nc,h.lw,bel_adv h.bel hb⟩
theorem CntIn.more {w0 w : World} {t27:TypeId} {q gy gd gw gc N M : Nat} {cs:Array Value} (h:CntIn w0 w t27 q gy gd gw gc N cs) (hn:N≤M) : CntIn w0 w t27 q gy gd gw gc M cs :=
 ⟨h.alm.mono hn,h.win.mono hn,h.cnt.mono hn,h.zb,h.nq,h.nw,h.nc,h.lw,h.bel⟩
theorem CntIn.show_ {w0 w w' : World} {t27:TypeId} {q gy gd gw gc N : Nat} {cs:Array Value} (h:CntIn w0 w t27 q gy gd gw gc N cs) (ha:AlmIn w' w0.heap.size q gy gd (N+4)) (hk:Keeps2 w w' gy gd) : CntIn w0 w' t27 q gy gd gw gc (N+4) cs :=
 ⟨ha,(h.win.keeps hk h.nw.1 h.nw.2).mono (by omega),(h.cnt.keeps hk h.nc.1 h.nc.2.1).mono (by omega),hk.blk h.zb (h.alm.y.notBlk h.zb) (h.alm.d.notBlk h.zb),h.nq,h.nw,h.nc,h.lw,h.bel.trans (hk.below h.bel.size h.alm.ly h.alm.ld)⟩
theorem CntIn.setW {w0 w w' : World} {t27:TypeId} {q gy gd gw gc N : Nat} {cs:Array Value} (h:CntIn w0 w t27 q gy gd gw gc N cs) (hm:MapC keyI w' gw (N+1) (.int .i64 0)) (hg:w.grownBy w' (some gw)) : CntIn w0 w' t27 q gy gd gw gc (N+1) cs :=
 ⟨(h.alm.kept hg h.nq.1 (fun e=>h.nw.1 e.symm) (fun e=>h.nw.2 e.symm)).mono (by omega),hm,(h.cnt.kept hg (fun e=>h.nc.2.2 (by injection e))).mono (by omega),h.zb.grown hg (fun e=>h.win.notBlk h.zb (by injection e)),h.nq,h.nw,h.nc,h.lw,bel_only h.bel hg (fun g e=>by injection e with e; rw [← e]; exact h.lw.1)⟩
theorem CntIn.setC {w0 w w' : World} {t27:TypeId} {q gy gd gw gc N : Nat} {cs:Array Value} (h:CntIn w0 w t27 q gy gd gw gc N cs) (hm:MapC keyI w' gc (N+1) (.agg #[.int .i64 0,.int .i64 0,.int .i64 0,.int .i64 0,.int .i64 0,.int .i64 0,.int .i64 0,.int .i64 0,.int .i64 0,.int .i64 0,.int .i64 0,.int .i64 0,.int .i64 0,.int .i64 0,.int .i64 0,.int .i64 0])) (hg:w.grownBy w' (some gc)) : CntIn w0 w' t27 q gy gd gw gc (N+1) cs :=
 ⟨(h.alm.kept hg h.nq.2 (fun e=>h.nc.1 e.symm) (fun e=>h.nc.2.1 e.symm)).mono (by omega),(h.win.kept hg (fun e=>h.nc.2.2 (by injection e with e; exact e.symm))).mono (by omega),hm,h.zb.grown hg (fun e=>h.cnt.notBlk h.zb (by injection e)),h.nq,h.nw,h.nc,h.lw,bel_only h.bel hg (fun g e=>by injection e with e; rw [← e]; exact h.lw.2.1)⟩
theorem wf0 : (Lit.int .i64 0).wf = true:=wf64 (by omega) (by omega)
section
set_option maxHeartbeats 8000000
set_option maxRecDepth 100000
def CountPost (w:World) (e:Ending) (w' : World) : Prop:=∃ gc,e = .returned (.map (some gc))∧MapC keyI w' gc 1000000 (.agg #[.int .i64 0,.int .i64 0,.int .i64 0,.int .i64 0,.int .i64 0,.int .i64 0,.int .i64 0,.int .i64 0,.int .i64 0,.int .i64 0,.int .i64 0,.int .i64 0,.int .i64 0,.int .i64 0,.int .i64 0,.int .i64 0])∧Below w.heap.size w w'
theorem countM (z:ZoneM) (A:Option Addr) (c:Nat) (l:List PcT) (w:World) (hz:ZoneOk z.t) (hZ:z.In w) (hL:Lens w) (hS:SliceOf encPc 4 w w.heap.size A l) (hl:PcsOk l) :
  Calls Tryz.prog 66 #[z.val,.slice none 0 0,.slice none 0 0,.slice A l.length c] w (CountPost w):=by
 have HL:=Lib.hid hl
 have hlen:=hl.len
 have HLN:=Lib.hid hL
 obtain ⟨zo,ZA,zc,zl⟩:=z
 have HZO:=Lib.hid hz
 have HZI:Hid (SliceOf encCh 2 w w.heap.size ZA zl):=hZ
 have hbz:=below_new w (.cells #[.int .i64 zo,.slice ZA zl.length zc] 27)
 have hBz:=Blk.new w 27 #[.int .i64 zo,.slice ZA zl.length zc]
 have hmm:=@run_makeMap Tryz.prog
 have hpos:=hL.1
 clear hl hz hZ hL
 show Calls Tryz.prog 66 #[.agg #[.int .i64 zo,.slice ZA zl.length zc],.slice none 0 0,.slice none 0 0,.slice A l.length c] w _
 go_enter Tryz.func66,Tryz.ntmps66
 go_wp2_with fail
 refine (almanacM _ (by simp)).mono ?_
 rintro e w1 ⟨q,gy,gd,rfl,hal,hb1,hq,hgy,hgd,hqb⟩
 rw [World.size_alloc] at hqb
 have hal0:AlmIn w1 w.heap.size q gy gd 0:=⟨hal.blk,hal.y,hal.d,hal.ne,by have:=hal.ly; rw [World.size_alloc] at this; omega,by have:=hal.ld; rw [World.size_alloc] at this; omega,hpos⟩
 have hBz1:=hBz.adv hb1
 have hbel1:=bel_adv hbz hb1
 have hsz1:=hbel1.size
 have hw1:=MapC.made keyI w1 (.int .i64 0)
 have hc1:=MapC.made keyI (w1.alloc (.map #[] 0)) (.agg #[.int .i64 0,.int .i64 0,.int .i64 0,.int .i64 0,.int .i64 0,.int .i64 0,.int .i64 0,.int .i64 0,.int .i64 0,.int .i64 0,.int .i64 0,.int .i64 0,.int .i64 0,.int .i64 0,.int .i64 0,.int .i64 0])
 have hb2:=below_new w1 (.map #[] 0)
 have hb3:=below_new (w1.alloc (.map #[] 0)) (.map #[] 0)
 rw [World.size_alloc] at hc1
 have HC0:Hid (CntIn w ((w1.alloc (.map #[] 0)).alloc (.map #[] 0)) 27 q gy gd w1.heap.size (w1.heap.size+1) 0 #[.int .i64 zo,.slice ZA zl.length zc]) :=
  ⟨(hal0.adv hb2).adv hb3,hw1.adv hb3,hc1,(hBz1.adv hb2).adv hb3,by omega,by omega,by omega,by omega,bel_adv (bel_adv hbel1 hb2) hb3⟩
 clear hal hb1 hal0 hBz1 hbel1 hw1 hc1 hb2 hb3 hbz hBz
 obtain ⟨gw,hgw⟩ : ∃ gw,w1.heap.size = gw:=⟨_,rfl⟩
 go_wp2_with fail
 rw [hgw] at HC0
 generalize (w1.alloc (.map #[] 0)).alloc (.map #[] 0) = wI at HC0 ⊢
 clear hgw hmm
 go_loopw [29] (fun i wr=>∃ (k N:Nat),k≤l.length∧i = .int .i64 k∧Hid (CntIn w wr 27 q gy gd gw (gw+1) N #[.int .i64 zo,.slice ZA zl.length zc])∧(N:Int)≤5 * sumPc (l.take k)+k) (fun i _=>l.length - (RowKit.intOf i).toNat)
 case atStart=>exact ⟨0,0,by omega,rfl,HC0,by simp [sumPc]⟩
 case round =>
  clear HC0
  obtain ⟨k,N,hk,rfl,HC,hN⟩:=hrel
  obtain ⟨s1,s2⟩:=HL.out.take k
  by_cases hlt:k < l.length
  ·
   obtain ⟨⟨g1,g2,g3⟩,g4,g5⟩:=HL.out.ok _ (List.getElem_mem hlt)
   obtain ⟨s3,s4⟩:=HL.out.take (k+1)
   have HT:=Lib.hid (sumPc_take l k hlt)
   rw [HT.out] at s3 s4
   obtain ⟨b,off,rfl,hq2,hc⟩:=(hS.below HC.out.bel).at_ hlt
   have c0:=hc 0 _ rfl
   have c1:=hc 1 _ rfl
   have c2:=hc 2 _ rfl
   have c3:=hc 3 _ rfl
   simp only [Nat.add_zero] at c0
   have hbs:=HC.out.bel.size
   have hqw:b < wr.heap.size:=by omega
   have hki:(k:Int) < (l.length:Int):=by omega
   clear hc
   generalize l[k] = x at c0 c1 c2 c3 HT g1 g2 g3 g4 g5 s3 s4
   obtain ⟨pd,⟨pf,pt⟩,pb⟩:=x
   simp only at c0 c1 c2 c3 HT g1 g2 g3 g4 g5 s3 s4
   generalize sumPc (l.take k) = S at s1 s2 s3 s4 HT hN
   have HWF:Hid ((Lit.int .i64 pd).wf = true):=wf64 (by omega) (by omega)
   have hbp:=below_new wr (.cells #[.int .i64 pd,.int .i64 pf,.int .i64 pt,.string pb] 172)
   have hBp:=Blk.new wr 172 #[.int .i64 pd,.int .i64 pf,.int .i64 pt,.string pb]
   have HCp:=Lib.hid (HC.out.adv hbp)
   obtain ⟨wp,hwp⟩ : ∃ wp,wp = wr.alloc (.cells #[.int .i64 pd,.int .i64 pf,.int .i64 pt,.string pb] 172):=⟨_,rfl⟩
   have hwps:wp.heap.size = wr.heap.size+1:=by rw [hwp]; simp
   rw [← hwp] at hBp HCp
   have HWP:=Lib.hid hwp
   have hbm:=below_new wp (.cells #[.int .i64 0,.int .i64 0,.int .i64 0,.int .i64 0,.int .i64 0,.int .i64 0,.int .i64 0,.int .i64 0,.int .i64 0,.int .i64 0,.int .i64 0,.int .i64 0,.int .i64 0,.int .i64 0,.int .i64 0,.int .i64 0] 178)
   have hBm:=Blk.new wp 178 #[.int .i64 0,.int .i64 0,.int .i64 0,.int .i64 0,.int .i64 0,.int .i64 0,.int .i64 0,.int .i64 0,.int .i64 0,.int .i64 0,.int .i64 0,.int .i64 0,.int .i64 0,.int .i64 0,.int .i64 0,.int .i64 0]
   have hBp2:=Lib.hid (hBp.adv hbm)
   have HCm:=Lib.hid (HCp.out.adv hbm)
   rw [hwps] at hBm
   have HBm:=Lib.hid hBm
   have hMC:=HCp.out.cnt
   have hpl:=hBp.lt
   have hPB:=hBp
   have p0:=hPB.cell 0
   have p1:=hPB.cell 1
   have p2:=hPB.cell 2
   have p3:=hPB.cell 3
   simp only [nqg,nqh,nqi] at p0 p1 p2 p3
   clear hBp hBm hbp hbm hwp hPB
   go_wp2_with (at_lookup; rw [← HWP.out]; go_loud (refine wpList_getC (E:=keyI) (by rfl) _ _ 175 (by rfl) Tryz.underlying175 (zeroArrM _) hMC pd HWF.out (by rfl) (by rfl) ?_))
   generalize wp.alloc (.cells #[.int .i64 0,.int .i64 0,.int .i64 0,.int .i64 0,.int .i64 0,.int .i64 0,.int .i64 0,.int .i64 0,.int .i64 0,.int .i64 0,.int .i64 0,.int .i64 0,.int .i64 0,.int .i64 0,.int .i64 0,.int .i64 0] 178) = wm at HCm hBp2 HBm ⊢
   clear p0 p1 p2 p3 c0 c1 c2 c3 hMC HCp HC
   obtain ⟨wo,rfl⟩ : ∃ wo:World,wo = wr:=⟨_,rfl⟩
   go_loopw [15] (fun t wz=>∃ (m M:Nat),pf+m≤pt∧t = .int .i64 (pf+m)∧Hid (CntIn w wz 27 q gy gd gw (gw+1) M #[.int .i64 zo,.slice ZA zl.length zc])∧M≤N+5 * m∧Hid (Blk wz wo.heap.size 172 #[.int .i64 pd,.int .i64 pf,.int .i64 pt,.string pb])∧Hid (Blk wz (wo.heap.size+1) 178 #[.int .i64 0,.int .i64 0,.int .i64 0,.int .i64 0,.int .i64 0,.int .i64 0,.int .i64 0,.int .i64 0,.int .i64 0,.int .i64 0,.int .i64 0,.int .i64 0,.int .i64 0,.int .i64 0,.int .i64 0,.int .i64 0])) (fun t _=>(pt - RowKit.intOf t).toNat)
   case atStart=>exact ⟨0,N,by omega,by simp,HCm,by omega,hBp2,HBm⟩
   case round =>
    clear HCm hBp2 HBm
    obtain ⟨m,M,hm,rfl,HI,hM,HP,HM⟩:=hrel
    have hP:=HP.out
    have hpl2:=hP.lt
    have hml2:=HM.out.lt
    have p0:=hP.cell 0
    have p1:=hP.cell 1
    have p2:=hP.cell 2
    have p3:=hP.cell 3
    simp only [nqg,nqh,nqi] at p0 p1 p2 p3
    clear hP
    by_cases hmt:pf+m < pt
    ·
     have hZB:=HI.out.zb
     have hzl:=hZB.lt
     have z0:=hZB.cell 0
     have z1:=hZB.cell 1
     simp only [nqg,nqh,nqi] at z0 z1
     clear hZB
     go_wp2_with fail
     refine (showM w.heap.size q gy gd M ⟨zo,ZA,zc,zl⟩ (pf+m) _ HZO.out ((HZI.out.below HI.out.bel).more HI.out.bel.size) (HLN.out.below hpos HI.out.bel) HI.out.alm HI.out.bel.size (by omega) (by omega) (by omega)).mono ?_
     rintro e w5 ⟨⟨ma,mb,rfl⟩,hal5,hk5⟩
     have hI5:=HI.out.show_ hal5 hk5
     have hP5:=hk5.blk HP.out (fun e=>HI.out.alm.y.notBlk HP.out e) (fun e=>HI.out.alm.d.notBlk HP.out e)
     have hM5:=hk5.blk HM.out (fun e=>HI.out.alm.y.notBlk HM.out e) (fun e=>HI.out.alm.d.notBlk HM.out e)
     have hbo:=below_new w5 (.cells #[.int .i64 ma,.int .i64 mb,.bool false] 236)
     have HI6:=Lib.hid (hI5.adv hbo)
     have HP6:=Lib.hid (hP5.adv hbo)
     have HM6:=Lib.hid (hM5.adv hbo)
     clear p0 p1 p2 p3 z0 z1 HI HP HM hal5 hk5 hI5 hP5 hM5 hbo
     go_wp2_with fail
     generalize w5.alloc (.cells #[.int .i64 ma,.int .i64 mb,.bool false] 236) = w6 at HI6 HP6 HM6 ⊢
     have hP6:=HP6.out
     have hpl6:=hP6.lt
     have p0:=hP6.cell 0
     have p1:=hP6.cell 1
     have p2:=hP6.cell 2
     have p3:=hP6.cell 3
     simp only [nqg,nqh,nqi] at p0 p1 p2 p3
     have hW6:=HI6.out.win
     clear hP6
     refine wp_loop_rounds 1 ?_
     rw [rounds_succ]
     go_wp2_with (at_lookup; go_loud (refine wpList_askC (E:=keyI) (by rfl) _ _ 163 (by rfl) Tryz.underlying163 (zeroIntM _) hW6 0 wf0 (by rfl) (by rfl) ?_); intro cc; cases cc)
     ·
      refine (chooseM 0 _).mono ?_
      rintro e w7 ⟨rfl,hb7⟩
      have hI7:=HI6.out.adv hb7
      have HP7:=Lib.hid (HP6.out.adv hb7)
      have HM7:=Lib.hid (HM6.out.adv hb7)
      have HI7:=Lib.hid hI7
      have hW7:=hI7.win
      clear hI7 hb7 HI6 HP6 HM6 hW6 p0 p1 p2 p3
      go_wp2_with (at_mapUpdate; go_loud (refine wpList_setC (E:=keyI) (by rfl) _ _ _ 163 (by rfl) Tryz.underlying163 hW7 (by unfold maxLen; omega) 0 wf0 (by rfl) (by rfl) (by rfl) ?_); intro w8 hm8 hg8)
      have HI8:=Lib.hid (HI7.out.setW hm8 hg8)
      have HP8:=Lib.hid (HP7.out.grown hg8 (fun e=>HI7.out.win.notBlk HP7.out (by injection e)))
      have HM8:=Lib.hid (HM7.out.grown hg8 (fun e=>HI7.out.win.notBlk HM7.out (by injection e)))
      clear hm8 hg8 HI7 HP7 HM7 hW7
      refine wp_loop_rounds 1 ?_
      rw [rounds_succ]
      go_wp2
      go_roundw
      case rel=>exact ⟨m+1,M+4+1,by omega,by congr 1; push_cast; omega,HI8.out,by omega,HP8,HM8⟩
      case measure=>simp [RowKit.intOf]; omega
     ·
      clear hW6 p0 p1 p2 p3
      refine wp_loop_rounds 1 ?_
      rw [rounds_succ]
      go_wp2
      go_roundw
      case rel=>exact ⟨m+1,M+4,by omega,by congr 1; push_cast; omega,HI6.out,by omega,HP6,HM6⟩
      case measure=>simp [RowKit.intOf]; omega
    ·
     have hme:pf+m = pt:=by omega
     have hM2:=HM.out
     have y0:=hM2.cell 0
     have y1:=hM2.cell 1
     have y2:=hM2.cell 2
     have y3:=hM2.cell 3
     have y4:=hM2.cell 4
     have y5:=hM2.cell 5
     have y6:=hM2.cell 6
     have y7:=hM2.cell 7
     have y8:=hM2.cell 8
     have y9:=hM2.cell 9
     have y10:=hM2.cell 10
     have y11:=hM2.cell 11
     have y12:=hM2.cell 12
     have y13:=hM2.cell 13
     have y14:=hM2.cell 14
     have y15:=hM2.cell 15
     simp only [nqg,nqh,nqi] at y0 y1 y2 y3 y4 y5 y6 y7 y8 y9 y10 y11 y12 y13 y14 y15
     have hC2:=HI.out.cnt
     have HSM:Hid ((m:Int) = pt - pf):=by rw [Hid]; omega
     clear hM2 hme
     go_wp2_with (at_mapUpdate; go_loud (refine wpList_setC (E:=keyI) (by rfl) _ _ _ 175 (by rfl) Tryz.underlying175 hC2 (by unfold maxLen; omega) pd HWF.out (by rfl) (by rfl) (by rfl) ?_); intro w8 hm8 hg8)
     have HI8:=Lib.hid (HI.out.setC hm8 hg8)
     clear hm8 hg8
     go_roundw
     case rel=>exact ⟨k+1,M+1,by omega,by go_num,HI8,by rw [HT.out]; have:=HSM.out; omega⟩
     case measure=>simp [RowKit.intOf]; omega
  ·
   have HCC:=HC.out
   have hfin:CountPost w (.returned (.map (some (gw+1)))) wr:=⟨_,rfl,HCC.cnt.mono (by omega),HCC.bel⟩
   have HF:=Lib.hid hfin
   clear hfin HC HCC
   obtain rfl:k = l.length:=by omega
   go_wp2
   go_ret
   exact HF.out
end
end Go.Proofs.YtopekilofdadnaaGreatDoor
