/- Joined texts: TgR2. Conditions: as stated. -/
import Derived.Deep.DeepCutAuto
import Derived.Test.YtopekilofdadnaaGreatDoorJTgP2
import Derived.Test.YtopekilofdadnaaGreatDoorJTgI2
import Derived.Test.YtopekilofdadnaaGreatDoorJTgR
import Derived.Test.YtopekilofdadnaaGreatDoorJTgS
namespace Go.Proofs.YtopekilofdadnaaGreatDoor
open Go.RowKit Go.Sort Go.Shelf
def AssignPost (z:ZoneT) (plan:List ShiftT) (early late : Int) (P:List PresT) (w:World) (e:Ending) (w' : World) : Prop :=
 ∃ A c ds,e = .returned (.tuple #[.slice A ds.length c,.int .i64 0])∧ds.map DutyM.t = assignN z plan (plan.map (spOf z)) early late P∧DutiesAt w' w.heap.size (.slice A ds.length c) ds∧ds.length≤P.length∧Below w.heap.size w w'
theorem belongsS' (A:Option Addr) (n c : Nat) (l:List IvT) (b early late : Int) (w:World) (hn:n = l.length) (hS:SliceOf encIv 2 w w.heap.size A l) (hl:l.length≤1024) (hb:0≤b∧b≤120968640) (he:0≤early∧early≤1440) (hla:0≤late∧late≤1440) (hv : ∀ x ∈ l,0≤x.f∧x.f≤120968640) :
  Calls Tryz.prog 92 #[.slice A n c,.int .i64 b,.int .i64 early,.int .i64 late] w fun e w'=>e = .returned (.int .i64 (belN b early late l))∧Below w.heap.size w w':=by
 subst hn
 exact belongsS A c l b early late w hS hl hb he hla hv
theorem assignN_take (z:ZoneT) (plan:List ShiftT) (sp:List IvT) (early late : Int) (P:List PresT) (k:Nat) (h:k < P.length) : assignN z plan sp early late (P.take (k+1)) = putDu (assignN z plan sp early late (P.take k)) (shiftOf early late sp P[k]) (dayOf z plan (shiftOf early late sp P[k]) P[k]) P[k]:=by
 rw [List.take_succ_eq_append_getElem h]
 unfold assignN
 rw [List.foldl_append]
 rfl
def idxF (ks:List (Int × Int)) (q:Int × Int) : Option Value:=(idxK ks q).map fun i=>.int .i64 (i:Nat)
theorem goodSh {a b : Int} (h1 : -1≤a∧a≤1024) (h2:0≤b∧b≤84005) : keySh.good (a,b):=by
 have h:(Lit.int .i64 a).wf = true∧(Lit.int .i64 b).wf = true:=⟨wf64 (by omega) (by omega),wf64 (by omega) (by omega)⟩
 exact h
structure Placed (wx:World) (base g0 g18 k : Nat) (s d : Int) (old:List DutyM) (v16 v20 : Value) (ds:List DutyM) (j:Nat) : Prop where
 h20:v20 = .int .i64 (j:Nat)
 hj:j < ds.length
 du:DutiesAt wx base v16 ds
 key:ds[j].key = (s,d)
 len:ds.length≤k+1
 nd:(ds.map DutyM.key).Nodup
 map:MapAt keySh wx g0 (k+1) (idxF (ds.map DutyM.key))
 put:∀ (y:PresM) A2 c2,putDu (old.map DutyM.t) s d y.p = (ds.set j ⟨ds[j].s,ds[j].d,A2,c2,ds[j].ps++[y]⟩).map DutyM.t
 far:∀ (i:Nat) (h:i < ds.length),ds[i].own ≠ some g18
 pl:∀ (i:Nat) (h:i < ds.length),ds[i].ps.length≤k
section
set_option maxHeartbeats 8000000
set_option maxRecDepth 100000
theorem assignS (z:ZoneM) (B:Option Addr) (d:Nat) (plan:List ShiftT) (A:Option Addr) (c:Nat) (ps:List PresM) (early late : Int) (w:World) (hz:ZoneOk z.t) (hS:z.In w) (hP:SliceOf encSf 3 w w.heap.size B plan) (hp : ∀ s ∈ plan,ShiftOk s) (hl:plan.length≤1024) (h0:spErr z.t none plan = 0)
  (hps:PrsIn w A ps) (he:0≤early∧early≤1440) (hla:0≤late∧late≤1440) :
  Calls Tryz.prog 54 #[z.val,.slice B plan.length d,.slice A ps.length c,.int .i64 early,.int .i64 late] w (AssignPost z.t plan early late (ps.map PresM.p) w):=by
 have HE:=Lib.hid he
 have HLA:=Lib.hid hla
 have H0:=Lib.hid h0
 obtain ⟨e1,e2⟩:=he
 obtain ⟨l1,l2⟩:=hla
 have HN:=Lib.hid (fun s:ShiftT=>firstN_bd hz (s.day * 1440+s.start))
 obtain ⟨zo,ZA,zc,zl⟩:=z
 have HZ:=Lib.hid hz
 have HP:=Lib.hid hp
 have HOK:=Lib.hid hps.ok
 have HBRL:=Lib.hid hps.br
 have hpl:=hps.len
 have hS1:=SliceOf.advA (show SliceOf encCh 2 w w.heap.size ZA zl from hS) (.cells #[.int .i64 zo,.slice ZA zl.length zc] 27)
 have hP1:=hP.advA (.cells #[.int .i64 zo,.slice ZA zl.length zc] 27)
 have hB0:=Blk.new w 27 #[.int .i64 zo,.slice ZA zl.length zc]
 have hbel0:=below_new w (.cells #[.int .i64 zo,.slice ZA zl.length zc] 27)
 have HPS:=Lib.hid (hps.adv hbel0)
 clear hz hS hP hp hps h0
 show Calls Tryz.prog 54 #[.agg #[.int .i64 zo,.slice ZA zl.length zc],.slice B plan.length d,.slice A ps.length c,.int .i64 early,.int .i64 late] w _
 have hmm:=@run_makeMap Tryz.prog
 go_enter Tryz.func54,Tryz.ntmps54
 go_wp2_with fail
 refine (spansE ⟨zo,ZA,zc,zl⟩ B d plan _ HZ.out hS1 hP1 HP.out hl).mono ?_
 rintro e w1 ⟨hb1,hcase⟩
 rcases hcase with ⟨hx,_⟩ | ⟨_,A1,sc,rfl,hSP⟩
 ·
  exact (hx H0.out).elim
 have hspl:(plan.map (spOf (ZoneM.mk zo ZA zc zl).t)).length = plan.length:=List.length_map _
 have HSV:Hid (∀ x ∈ plan.map (spOf (ZoneM.mk zo ZA zc zl).t),0≤x.f∧x.f≤120968640):=fun x hx=>by
  obtain ⟨s,hs,rfl⟩:=List.mem_map.1 hx
  exact HN.out s
 have hlsp:(plan.map (spOf (ZoneM.mk zo ZA zc zl).t)).length≤1024:=by rw [hspl]; exact hl
 generalize hsp:plan.map (spOf (ZoneM.mk zo ZA zc zl).t) = sp at hSP hspl HSV hlsp
 have HSPE:=Lib.hid hsp
 have HSPL:=Lib.hid hspl
 have hS2:=hS1.adv hb1
 have hP2:=hP1.adv hb1
 have hC0:=hB0.adv hb1
 have HPS2:=Lib.hid (HPS.out.adv hb1)
 have hbel1:=bel_adv hbel0 hb1
 clear hsp hspl hb1 hS1 hP1 hB0 hbel0
 go_wp2_with fail
 refine (validP A c ps _ HPS2.out).mono ?_
 rintro e w2 ⟨rfl,hb2⟩
 have hS3:=hS2.adv hb2
 have hP3:=hP2.adv hb2
 have hC1:=hC0.adv hb2
 have hSP3:=hSP.adv hb2
 have hPS3:=HPS2.out.adv hb2
 have HPI:=Lib.hid hPS3.i
 have hPSS:=hPS3.s
 have hbel2:=bel_adv hbel1 hb2
 clear hb2 hS2 hP2 hC0 hSP hbel1 hPS3
 go_wp2
 have hm0:=MapAt.made keySh w2
 have hbl0:=below_new w2 (.map #[] 0)
 go_loopw [16,53] (fun v i wr=>∃ (k:Nat) (ds:List DutyM),k≤ps.length∧i = .int .i64 k∧DutiesAt wr (w2.heap.size+1) v ds∧ds.length≤k∧(ds.map DutyM.key).Nodup∧MapAt keySh wr w2.heap.size k (idxF (ds.map DutyM.key))∧Hid (ds.map DutyM.t = assignN (ZoneM.mk zo ZA zc zl).t plan sp early late ((ps.map PresM.p).take k))∧Hid (∀ (i:Nat) (h:i < ds.length),ds[i].ps.length≤k)∧Below w2.heap.size w2 wr) (fun _ i _=>ps.length - (intOf i).toNat)
 case atStart=>exact ⟨0,[],by omega,rfl,DutiesAt.nil_ _ _,by simp,by simp,hm0.congr (fun x _=>rfl),rfl,fun i h=>by simp at h,hbl0⟩
 case round =>
  clear hm0 hbl0 hmm
  obtain ⟨k,ds,hk,rfl,hDS,hdl,hnd,hM,hE,HPK,hbr⟩:=hrel
  have hbs:=hbr.size
  have hMl:=hM.lt
  obtain ⟨DA,dc,hv⟩:=hDS.row.slice encDu_len
  subst hv
  by_cases hlt:k < ps.length
  ·
   obtain ⟨q1,q2,q3,q4⟩:=prOk_in HOK.out _ (List.mem_map_of_mem (List.getElem_mem hlt) : (ps[k]).p ∈ ps.map PresM.p)
   have hbl:=HBRL.out _ (List.getElem_mem hlt)
   have hI:=HPI.out _ (List.getElem_mem hlt)
   have HT:Hid (assignN (ZoneM.mk zo ZA zc zl).t plan sp early late ((ps.map PresM.p).take (k+1)) = putDu (ds.map DutyM.t) (shiftOf early late sp (ps[k]).p) (dayOf (ZoneM.mk zo ZA zc zl).t plan (shiftOf early late sp (ps[k]).p) (ps[k]).p) (ps[k]).p):=by
    rw [Hid,assignN_take _ _ _ _ _ _ _ (by simpa using hlt),← hE.out,List.getElem_map]
   obtain ⟨q,off,rfl,hq,hc⟩:=(hPSS.below hbr).at_ hlt
   have c0:=hc 0 _ rfl
   have c1:=hc 1 _ rfl
   have c2:=hc 2 _ rfl
   simp only [Nat.add_zero] at c0
   have hqw:q < wr.heap.size:=by omega
   have hki:(k:Int) < (ps.length:Int):=by omega
   clear hc hE q4
   generalize ps[k] = x at c0 c1 c2 HT hbl hI q1 q2 q3
   obtain ⟨xf,xt,xA,xc,xb⟩:=x
   have q1:0≤xf:=q1
   have q2:xf < xt:=q2
   have q3:xt≤120968640:=q3
   have hbl:xb.length≤1024:=hbl
   have c0:wr.cell? ⟨q,off+k * 3,none⟩ = some (.int .i64 xf):=c0
   have c1:wr.cell? ⟨q,off+k * 3+1,none⟩ = some (.int .i64 xt):=c1
   have c2:wr.cell? ⟨q,off+k * 3+2,none⟩ = some (.slice xA xb.length xc):=c2
   have hI:SliceOf encIv 2 w2 w2.heap.size xA xb:=hI
   have hBP:=Blk.new wr 81 #[.int .i64 xf,.int .i64 xt,.slice xA xb.length xc]
   have hbrP:=bel_alloc hbr (.cells #[.int .i64 xf,.int .i64 xt,.slice xA xb.length xc] 81)
   have hDSP:=hDS.alloc (.cells #[.int .i64 xf,.int .i64 xt,.slice xA xb.length xc] 81)
   have hMP:=hM.alloc (.cells #[.int .i64 xf,.int .i64 xt,.slice xA xb.length xc] 81)
   have HFAR:Hid (∀ (i:Nat) (h:i < ds.length),ds[i].own ≠ some wr.heap.size):=fun i h e=>by
    have:=((hDS.ps i h).block_lt e).2
    omega
   have hSPW:SliceOf encIv 2 (wr.alloc (.cells #[.int .i64 xf,.int .i64 xt,.slice xA xb.length xc] 81)) (wr.alloc (.cells #[.int .i64 xf,.int .i64 xt,.slice xA xb.length xc] 81)).heap.size A1 sp:=hSP3.adv hbrP
   clear hbr hDS hM
   go_wp2_with fail
   refine (belongsS' A1 _ sc sp xf early late _ HSPL.out.symm hSPW hlsp ⟨q1,by omega⟩ HE.out HLA.out HSV.out).mono ?_
   rintro e w3 ⟨rfl,hb3⟩
   have HTs:Hid (assignN (ZoneM.mk zo ZA zc zl).t plan sp early late ((ps.map PresM.p).take (k+1)) = putDu (ds.map DutyM.t) (belN xf early late sp) (dayOf (ZoneM.mk zo ZA zc zl).t plan (belN xf early late sp) (PresM.mk xf xt xA xc xb).p) (PresM.mk xf xt xA xc xb).p):=HT
   obtain ⟨sb1,sb2⟩:=belN_bd xf early late sp
   have sb3:belN xf early late sp < plan.length:=by rw [← HSPL.out]; exact sb2
   clear HT sb2
   generalize belN xf early late sp = s at HTs sb1 sb3 ⊢
   have hDb:0≤dayOf (ZoneM.mk zo ZA zc zl).t plan s (PresM.mk xf xt xA xc xb).p∧dayOf (ZoneM.mk zo ZA zc zl).t plan s (PresM.mk xf xt xA xc xb).p≤84005:=by
    unfold dayOf
    split
    ·
     have hjl:s.toNat < plan.length:=by omega
     rw [List.getD_eq_getElem?_getD,List.getElem?_eq_getElem hjl]
     exact (HP.out _ (List.getElem_mem hjl)).d
    ·
     exact dayN_bd _ _
   generalize hD:dayOf (ZoneM.mk zo ZA zc zl).t plan s (PresM.mk xf xt xA xc xb).p = D at HTs hDb
   obtain ⟨D1,D2⟩:=hDb
   have HD:=Lib.hid hD
   have HG:=Lib.hid (goodSh (a:=s) (b:=D) ⟨sb1,by omega⟩ ⟨D1,D2⟩)
   have hbr3:=bel_adv hbrP hb3
   have hBP3:=hBP.adv hb3
   have hDS3:=hDSP.adv hb3
   have hM3:=hMP.adv hb3
   have hbs3:=hb3.size
   rw [World.size_alloc] at hbs3
   have hbs23:=hbr3.size
   have hgl3:wr.heap.size < w3.heap.size:=by omega
   have hC3:=(hC1.adv hbr3).alloc (.cells #[.int .i64 s,.int .i64 0] 219)
   have hC3l:=hC1.lt
   have hBK3:=Blk.new w3 219 #[.int .i64 s,.int .i64 0]
   have hbK3:=below_new w3 (.cells #[.int .i64 s,.int .i64 0] 219)
   have y0:=hC3.cell 0
   have y1:=hC3.cell 1
   simp only [nqg,nqh,nqi] at y0 y1
   have p0:=hBP3.cell 0
   have p1:=hBP3.cell 1
   have p2:=hBP3.cell 2
   simp only [nqg,nqh,nqi] at p0 p1 p2
   clear hD hb3 hBP hDSP hMP hbrP hSPW c0 c1 c2 hC3
   go_upto_if 67 with fail
   go_cut [] (fun wx=>Blk wx w3.heap.size 219 #[.int .i64 s,.int .i64 D]∧RowKit.Below w3.heap.size w3 wx)
   case first =>
    by_cases hs0:0≤s
    ·
     obtain ⟨j,rfl⟩ : ∃ j:Nat,s = j:=⟨s.toNat,by omega⟩
     have hjl:j < plan.length:=by omega
     have hjl2:(j:Int) < (plan.length:Int):=by omega
     obtain ⟨qb,qoff,rfl,hqb,hqc⟩:=(hP3.below (hbr3.mono (Nat.le_refl _))).at_ hjl
     have r0:=hqc 0 _ rfl
     simp only [Nat.add_zero] at r0
     have hDp:plan[j].day = D:=by
      have:=HD.out
      rw [dayOf,if_pos hs0] at this
      rw [← this,Int.toNat_natCast,List.getD_eq_getElem?_getD,List.getElem?_eq_getElem hjl]
      rfl
     rw [hDp] at r0
     have hqb3:qb < w3.heap.size:=by omega
     have hjz:(0:Int)≤(j:Int):=hs0
     have hBD:=Blk.new w3 219 #[.int .i64 j,.int .i64 D]
     have hbD:=below_new w3 (.cells #[.int .i64 j,.int .i64 D] 219)
     clear hqc hDp
     go_wp2
     go_meet
     exact ⟨hBD,hbD⟩
    ·
     have hDp:dayN (ZoneM.mk zo ZA zc zl).t xf = D:=by
      have:=HD.out
      rw [dayOf,if_neg hs0] at this
      exact this
     have HDP:=Lib.hid hDp
     have hZ:(ZoneM.mk zo ZA zc zl).In (w3.alloc (.cells #[.int .i64 s,.int .i64 0] 219)):=SliceOf.adv (show SliceOf encCh 2 w2 w2.heap.size ZA zl from hS3) (bel_alloc hbr3 _)
     have e0:decide (0≤s) = false:=decide_eq_false hs0
     clear hDp
     go_wp2_with fail
     refine (dayC ⟨zo,ZA,zc,zl⟩ xf _ HZ.out hZ q1 (by omega)).mono ?_
     rintro e w4 ⟨rfl,hb4⟩
     rw [HDP.out]
     have hBK4:=(hBK3.adv hb4).set_ 1 (.int .i64 D)
     have hbK4:=bel_set (bel_adv hbK3 hb4) (g:=w3.heap.size) (Nat.le_refl _) 1 (.int .i64 D)
     have hlk:=(hBK3.adv hb4).lt
     have hfz:=(hBK3.adv hb4).frozen 1
     have hBK4':=hBK3.adv hb4
     have m0:=hBK4'.cell 0
     have m1:=hBK4'.cell 1
     simp only [nqg,nqh,nqi] at m0 m1
     clear hb4 hBK4'
     go_wp2
     go_meet
     exact ⟨hBK4,hbK4⟩
   case rest =>
    obtain ⟨hBK,hbK⟩:=hcut
    have hBPc:=hBP3.adv hbK
    have hDSc:=hDS3.adv hbK
    have hMc:=hM3.adv hbK
    have hbrc:=bel_adv hbr3 hbK
    have hbKs:=hbK.size
    have hbcs:=hbrc.size
    have hMcl:=hMc.lt
    have k0:=hBK.cell 0
    have k1:=hBK.cell 1
    simp only [nqg,nqh,nqi] at k0 k1
    have HBK:=Lib.hid hBK
    clear y0 y1 p0 p1 p2 hBK hBK3 hbK3 hbK hC3l hBP3 hDS3 hM3 hbr3
    obtain ⟨V,hV⟩ : ∃ V,(idxF (ds.map DutyM.key) (s,D)).getD (.int .i64 0) = V:=⟨_,rfl⟩
    obtain ⟨C,hC⟩ : ∃ C,(idxF (ds.map DutyM.key) (s,D)).isSome = C:=⟨_,rfl⟩
    have HV:=Lib.hid hV
    have HC:=Lib.hid hC
    have HBP:=Lib.hid hBPc
    have HND:=Lib.hid hnd
    clear hV hC
    go_upto_if 94 with (at_lookup; go_loud (refine wpList_ask (E:=keySh) (f:=idxF (ds.map DutyM.key)) (by rfl) _ _ 216 (by rfl) Tryz.underlying216 (.int .i64 0) (zeroInt _) hMc (s,D) HG.out (by rfl) (by rfl) V C HV.out HC.out ?_))
    go_cut [16,20] (fun v16 v20 wx=>∃ ds2 j,Placed wx (w2.heap.size+1) w2.heap.size wr.heap.size k s D ds v16 v20 ds2 j∧Blk wx wr.heap.size 81 #[.int .i64 xf,.int .i64 xt,.slice xA xb.length xc]∧RowKit.Below w2.heap.size w2 wx)
    case first =>
     rcases hix:idxK (ds.map DutyM.key) (s,D) with _ | j
     ·
      have hcf:C = false:=by rw [← HC.out,idxF,hix]; rfl
      subst hcf
      have HNEW:Hid (∀ y,idxF ((ds++[(⟨s,D,none,0,[]⟩ : DutyM)]).map DutyM.key) y = if y = (s,D) then some (.int .i64 (ds.length:Nat)) else idxF (ds.map DutyM.key) y):=fun y=>by
       unfold idxF
       rw [List.map_append,List.map_singleton,show DutyM.key ⟨s,D,none,0,[]⟩ = (s,D) from rfl,idxK_app _ _ _ hix]
       split
       ·
        simp
       ·
        rfl
      have HN1:Hid (idxF ((ds++[(⟨s,D,none,0,[]⟩ : DutyM)]).map DutyM.key) (s,D) = some (.int .i64 (ds.length:Nat))):=by rw [Hid,HNEW.out,if_pos rfl]
      have HN2:Hid (∀ y,y ≠ (s,D)→idxF ((ds++[(⟨s,D,none,0,[]⟩ : DutyM)]).map DutyM.key) y = idxF (ds.map DutyM.key) y):=fun y hy=>by rw [HNEW.out,if_neg hy]
      have HIX:=Lib.hid hix
      have HDSC:=Lib.hid hDSc
      clear hix HNEW hDSc
      go_wp2_with (first
       | (at_mapUpdate; go_loud (refine wpList_set (E:=keySh) (f:=idxF (ds.map DutyM.key)) (idxF ((ds++[(⟨s,D,none,0,[]⟩ : DutyM)]).map DutyM.key)) (by rfl) _ _ _ 216 (by rfl) Tryz.underlying216 hMc (by unfold maxLen; omega) (s,D) HG.out (.int .i64 (ds.length:Nat)) (by rfl) (by rfl) (by rfl) HN1.out HN2.out ?_); intro w4 hm4 hg4; have hBK4:=(show Blk wc w3.heap.size 219 #[.int .i64 s,.int .i64 D] from HBK.out).grown hg4 (by simp; omega); have m0:=hBK4.cell 0; have m1:=hBK4.cell 1; simp only [nqg,nqh,nqi] at m0 m1; have HDU4:=Lib.hid (HDSC.out.kept hg4 (fun g e=>by injection e; omega)); have HG4:=Lib.hid hg4; have hws4:=hg4.size; clear hBK4 hg4)
       | (at_builtin; go_loud (refine wpList_append_one _ _ 146 (⟨s,D,none,0,[]⟩ : DutyM) _ 40 _ infoDu Tryz.underlying146 HDU4.out.row encDu_len (by omega) rfl (encDu_one _) (by omega) (by omega) (by omega) (by rfl) (by rfl) (by rfl) (by rfl) (by simp) (by rfl) ?_); intro v5 w5 hown5 hg5))
      go_meet
      refine ⟨ds++[⟨s,D,none,0,[]⟩],ds.length,⟨rfl,by simp,HDU4.out.push s D hown5 hg5,by simp [DutyM.key],by simp; omega,?_,?_,?_,?_,?_⟩,?_,?_⟩
      ·
       rw [List.map_append,List.nodup_append]
       refine ⟨HND.out,by simp,fun a ha b hb=>?_⟩
       rw [List.map_singleton,List.mem_singleton] at hb
       subst hb
       intro e
       subst e
       exact idxK_none HIX.out ha
      ·
       exact hm4.kept hg5 (fun e=>by have:=(HDU4.out.row.block_lt e.symm).1; omega)
      ·
       intro y A2 c2
       rw [putDu_new HIX.out,List.getElem_append_right (by omega),List.map_set,List.map_append]
       simp [DutyM.t]
      ·
       intro i hi
       by_cases hl3:i < ds.length
       ·
        rw [List.getElem_append_left hl3]; exact HFAR.out i hl3
       ·
        rw [List.getElem_append_right (by omega)]
        simp only [List.getElem_singleton]
        intro e
        cases e
      ·
       intro i hi
       by_cases hl3:i < ds.length
       ·
        rw [List.getElem_append_left hl3]; exact HPK.out i hl3
       ·
        rw [List.getElem_append_right (by omega)]
        simp
      ·
       exact (HBP.out.grown HG4.out (by simp; omega)).grown hg5 (fun e=>HDU4.out.row.notBlk (HBP.out.grown HG4.out (by simp; omega)) tDuPr e.symm)
      ·
       exact bel_only (bel_only hbrc HG4.out (fun g e=>by injection e; omega)) hg5 (fun g e=>by have:=(HDU4.out.row.block_lt e).1; omega)
     ·
      have hct:C = true:=by rw [← HC.out,idxF,hix]; rfl
      have hvj:V = .int .i64 (j:Nat):=by rw [← HV.out,idxF,hix]; rfl
      subst hct
      subst hvj
      obtain ⟨hj1,hj2⟩:=idxK_some hix
      have hj3:j < ds.length:=by simpa using hj1
      have hj4:ds[j].key = (s,D):=by simpa using hj2
      have HJ4:=Lib.hid hj4
      have HDSC:=Lib.hid hDSc
      clear hix hj2 hj4 hDSc
      go_wp2
      go_meet
      exact ⟨ds,j,⟨rfl,hj3,HDSC.out,HJ4.out,by omega,HND.out,hMc.mono (by omega),fun y A2 c2=>putDu_at hj3 HJ4.out HND.out y A2 c2,HFAR.out,HPK.out⟩,HBP.out,hbrc⟩
    case rest =>
     clear HBP HND HV HC HFAR hnd hMc hDSc hbrc hbcs hMcl k0 k1 HBK hbKs
     obtain ⟨ds2,j,hPl,hBP,hbr⟩:=hcut
     obtain ⟨h20,hj,hdu,hkey,hlen2,hnd2,hmap2,hput,hfar,hpln⟩:=hPl
     have HPLN:=Lib.hid hpln
     subst h20
     obtain ⟨g,cap,cur,hv16,hgb,hBg,hcap,hcm⟩:=hdu.row.some_ (by omega)
     subst hv16
     have HI:=Lib.hid (hI.adv hbr)
     have HKEY:=Lib.hid hkey
     have HPUT:=Lib.hid hput
     have HND2:=Lib.hid hnd2
     have HDU:=Lib.hid hdu
     have HFAR:=Lib.hid hfar
     have HBR:=Lib.hid hbr
     have HMAP:=Lib.hid hmap2
     have hbrs:=hbr.size
     have hmlt:=hmap2.lt
     have hpl18:=hBP.lt
     have hBP1:=hBP
     have p0:=hBP1.cell 0
     have p1:=hBP1.cell 1
     have p2:=hBP1.cell 2
     simp only [nqg,nqh,nqi] at p0 p1 p2
     clear hBP1 hkey hput hnd2 hdu hfar hbr hmap2 hBg hpln
     go_wp2_with fail
     refine (cloneS xA xc xb _ HI.out hbl).mono ?_
     rintro e w6 ⟨A3,c3,rfl,hown3,hb6⟩
     have hBP6:=hBP.adv hb6
     have hb6s:=hb6.size
     have h18:wr.heap.size < w6.heap.size:=by omega
     have p0:=hBP6.cell 0
     have p1:=hBP6.cell 1
     have p2:=hBP6.cell 2
     simp only [nqg,nqh,nqi] at p0 p1 p2
     have hW6:w6.grownBy (w6.setCell ⟨wr.heap.size,2,none⟩ (.slice A3 xb.length c3)) (some wr.heap.size):=only_setCell (only_refl _ _) (.inl rfl) _
     have hBPW:Blk (w6.setCell ⟨wr.heap.size,2,none⟩ (.slice A3 xb.length c3)) wr.heap.size 81 #[.int .i64 xf,.int .i64 xt,.slice A3 xb.length c3]:=hBP6.set_ 2 _
     have hdu6:=HDU.out.adv hb6
     have hduW:=hdu6.far hW6 (hdu6.row.notBlk hBP6 tDuPr) HFAR.out (fun i hi x hx=>(hdu6.br i hi x hx).notBlk hBP6 tPrIv.symm)
     have hy3:Own encIv 2 34 (w6.setCell ⟨wr.heap.size,2,none⟩ (.slice A3 xb.length c3)) (w2.heap.size+1) (.slice A3 xb.length c3) xb:=(hown3.weaken (by omega)).keptNe hW6 (fun q hq e=>hown3.notBlk hBP6 tPrIv.symm (by rw [hq,← e]))
     have hmapW:=(HMAP.out.adv hb6).kept hW6 (by simp; omega)
     have hbrW:=bel_only (bel_adv HBR.out hb6) hW6 (fun g e=>by injection e; omega)
     have hfr:=hBP6.frozen 2
     clear hown3 hdu6 hBP6 hb6
     have HDW:=Lib.hid hduW
     have HY3:=Lib.hid hy3
     have HMW:=Lib.hid hmapW
     have HBW:=Lib.hid hbrW
     have HBPW:=Lib.hid hBPW
     clear hduW hy3 hmapW hbrW hBPW hBP
     go_upto_region 26 with fail
     generalize hWW:w6.setCell ⟨wr.heap.size,2,none⟩ (.slice A3 xb.length c3) = W at HDW HY3 HMW HBW HBPW ⊢
     clear hWW hW6 hfr p0 p1 p2
     obtain ⟨cur,hcur⟩:=HDW.out.row.obj (g:=g) rfl
     have hBg:Blk W g 150 cur:=hcur
     have HBg:=Lib.hid hBg
     obtain ⟨A0,c0,hv0,hS0,_,_⟩:=HDW.out.row.form encDu_len
     injection hv0 with hv1 hv2 hv3
     subst hv1 hv3
     obtain ⟨gb,go,hg0,_,hcl⟩:=hS0.at_ hj
     injection hg0 with hg0
     injection hg0 with hg1 hg2
     subst hg1 hg2
     have z2:=hcl 2 _ rfl
     simp only [Nat.zero_add] at z2
     have hcc:cur[j * 3+2]? = some (.slice ds2[j].A ds2[j].ps.length ds2[j].c):=by rw [← hBg.cell]; exact z2
     have HCC:=Lib.hid hcc
     have hpo:=HDW.out.ps j hj
     have HPO:=Lib.hid hpo
     have hgn:(Value.slice ds2[j].A ds2[j].ps.length ds2[j].c).ownBlock ≠ some g:=fun e=>HDW.out.row.types hpo tDuPr rfl e
     have hgx:(Value.slice ds2[j].A ds2[j].ps.length ds2[j].c).ownBlock ≠ some wr.heap.size:=HFAR.out j hj
     have hgl:=hBg.lt
     have hxl:=HBPW.out.lt
     have hBPW:=HBPW.out
     have x0:=hBPW.cell 0
     have x1:=hBPW.cell 1
     have x2:=hBPW.cell 2
     simp only [nqg,nqh,nqi] at x0 x1 x2
     have hji:(j:Int) < (ds2.length:Int):=by omega
     have hj0:(0:Int)≤(j:Int):=by omega
     have hpl:ds2[j].ps.length < 4294967296:=Nat.lt_of_le_of_lt (HPLN.out j hj) (by omega)
     clear hcur hBg hv2 hS0 hcl hcc hpo hBPW
     refine wp_region_app (aE:=?aEA) (enc:=encPr) (e:=81) [0,1,2,3,4,5,6,7] 8 9 10 11 12 (⟨xf,xt,A3,c3,xb⟩ : PresM) (g) (j * 3+2) (.tmp 118) 75 40 _ (.pointer (some ⟨g,j * 3,none⟩)) (by kernel_rfl) (by kernel_rfl) rfl (by kernel_rfl) (by rfl) rfl (by kernel_rfl) (by kernel_rfl) (by kernel_rfl) (by kernel_rfl) (by kernel_rfl) (by kernel_rfl) rfl rfl rfl rfl rfl rfl rfl rfl rfl rfl rfl rfl rfl rfl rfl rfl infoPr Tryz.underlying75 HPO.out HBg.out encPr_len (by omega) rfl (encPr_one _) (by omega) (by omega) (by omega) hgn ?HA ?EaA ?EsA ?E1A ?E2A ?ExA ?MA
     case HA =>
      intro F hF inst
      simp only [M3.opsAt,List.getElem?_toArray,List.getElem?_cons_zero,List.getElem?_cons_succ]
      have e2:=BwC.cellG (F:=F) (a:=⟨g,j * 3+2,none⟩) (by exact hgl) hgn z2
      have d0:=BwC.cellG (F:=F) (a:=⟨wr.heap.size,0,none⟩) (by exact hxl) hgx x0
      have d1:=BwC.cellG (F:=F) (a:=⟨wr.heap.size,1,none⟩) (by exact hxl) hgx x1
      have d2:=BwC.cellG (F:=F) (a:=⟨wr.heap.size,2,none⟩) (by exact hxl) hgx x2
      repeat (first | go_big_quiet_step (first | fail) | quiet_step (first | fail))
      refine wpQuiet_nil ?_
      rfl
     case EaA=>exact fun _=>by first | rfl | (go_simp; done) | (go_simp; rfl)
     case EsA=>exact fun _=>⟨rfl,rfl⟩
     case E1A=>exact fun _ _ _=>by first | rfl | go_simp
     case E2A=>exact fun _ _ _=>by first | rfl | go_simp
     case ExA =>
      intro uq Aq nq cq wq hBq
      have cq0:=hBq.cell (j * 3+2)
      have fq0:=hBq.frozen (j * 3+2)
      rw [HCC.out] at cq0
      go_simp
     case MA =>
      intro u A2 c2 w7 hown7 hg7 halt
      try simp only [Act.put,List.setIfInBounds_toArray,List.set_cons_succ,List.set_cons_zero]
      have hP:=HDW.out.put hj (⟨xf,xt,A3,c3,xb⟩ : PresM) HY3.out hown7 hg7 halt
      have HPP:=Lib.hid hP
      have hge:=HDW.out.row.block_lt (g:=g) rfl
      have hgs:(w7).grownBy (w7.setCell ⟨g,j * 3+2,none⟩ (.slice A2 (ds2[j].ps.length+1) c2)) (some g):=only_setCell (only_refl _ _) (.inl rfl) _
      have hMf:=(HMW.out.kept hg7 (fun e=>by have:=(HPO.out.block_lt e.symm).1; omega)).kept hgs (by simp; omega)
      have hbf:=bel_only (bel_only HBW.out hg7 (fun q e=>by have:=(HPO.out.block_lt e).1; omega)) hgs (fun q e=>by injection e; omega)
      have HMF:=Lib.hid hMf
      have HBF:=Lib.hid hbf
      clear hP hge hgs hMf hbf hown7 hg7 halt
      go_wp2
      go_roundw
      case rel =>
       refine ⟨k+1,ds2.set j ⟨ds2[j].s,ds2[j].d,A2,c2,ds2[j].ps++[⟨xf,xt,A3,c3,xb⟩]⟩,by omega,by go_num,HPP.out,by simpa using hlen2,by rw [keys_set hj]; exact HND2.out,by rw [keys_set hj]; exact HMF.out,?_,?_,HBF.out⟩
       ·
        rw [Hid,HTs.out]
        exact (HPUT.out ⟨xf,xt,A3,c3,xb⟩ A2 c2).symm
       ·
        intro i hi
        have hi':i < ds2.length:=by simpa using hi
        by_cases e:i = j
        ·
         subst e
         rw [List.getElem_set_self]
         simp only [List.length_append,List.length_singleton]
         have:=HPLN.out i hi'
         omega
        ·
         rw [List.getElem_set_ne (fun x=>e x.symm)]
         have:=HPLN.out i hi'
         omega
      case measure=>simp [intOf]; omega
  ·
   obtain rfl:k = ps.length:=by omega
   have hbf:=bel_adv hbel2 hbr
   have hE2:Hid (ds.map DutyM.t = assignN (ZoneM.mk zo ZA zc zl).t plan sp early late (ps.map PresM.p)):=by
    have:=hE.out
    rw [List.take_of_length_le (by simp)] at this
    exact this
   have HDS:=Lib.hid hDS
   clear hE hM hnd hDS
   go_wp2
   go_ret2
   exact ⟨DA,dc,ds,rfl,by rw [HSPE.out]; exact hE2.out,⟨HDS.out.row.weaken (by have:=hbel2.size; omega),fun i hi=>(HDS.out.ps i hi).weaken (by have:=hbel2.size; omega),fun i hi x hx=>(HDS.out.br i hi x hx).weaken (by have:=hbel2.size; omega),HDS.out.ap⟩,by simpa using hdl,hbf⟩
end
end Go.Proofs.YtopekilofdadnaaGreatDoor
