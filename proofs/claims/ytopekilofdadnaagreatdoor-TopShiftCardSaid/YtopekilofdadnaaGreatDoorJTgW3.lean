/- Joined texts: TgW3 TgW4. Conditions: as stated. -/
import Derived.Deep.DeepCutAuto
import Derived.Test.YtopekilofdadnaaGreatDoorJBox
import Derived.Test.YtopekilofdadnaaGreatDoorJTgW
namespace Go.Proofs.YtopekilofdadnaaGreatDoor
open Go.RowKit
theorem stays_take (ps:List PresM) (k:Nat) (h:k < ps.length) : staysN ((ps.take (k+1)).map PresM.p) = staysN ((ps.take k).map PresM.p)++[⟨ps[k].f,ps[k].t⟩]:=by
 rw [List.take_succ_eq_append_getElem h,List.map_append,staysN,List.map_append]
 rfl
section
set_option maxHeartbeats 8000000
set_option maxRecDepth 100000
theorem adjustW (s pf pt : Int) (A:Option Addr) (c:Nat) (ps:List PresM) (w:World) (hS:SliceOf encPr 3 w w.heap.size A ps) (ok:prOk 0 120968640 (ps.map PresM.p)) (hl:ps.length≤1024) (ha:AdjOk s ⟨pf,pt⟩ ps) (hpf:0≤pf∧pf≤120968640) (hpt:0≤pt∧pt≤120968640) :
  Calls Tryz.prog 133 #[adjV s,.agg #[.int .i64 pf,.int .i64 pt],.slice A ps.length c] w fun e w'=>∃ v,e = .returned v∧Own encIv 2 34 w' w.heap.size v (staysN (ps.map PresM.p))∧Below w.heap.size w w':=by
 have HOK:=Lib.hid ok
 have HA:=Lib.hid ha
 have HPF:=Lib.hid hpf
 have HPT:=Lib.hid hpt
 obtain ⟨P,hP⟩ : ∃ P,(!(pf == 0 && pt == 0)) = P:=⟨_,rfl⟩
 have hq:=fun w:World=>neqIv pf pt 0 0 w
 rw [hP] at hq
 have HP:=Lib.hid hP
 have hB0:=(Blk.new w 45 #[.int .i64 0,.int .i64 0,.int .i64 s,.slice none 0 0]).alloc (.cells #[.int .i64 pf,.int .i64 pt] 34)
 have hB1:=Blk.newAt (w:=w.alloc (.cells #[.int .i64 0,.int .i64 0,.int .i64 s,.slice none 0 0] 45)) (g:=w.heap.size+1) 34 #[.int .i64 pf,.int .i64 pt] (by simp)
 have hbel0:=bel_alloc (below_new w (.cells #[.int .i64 0,.int .i64 0,.int .i64 s,.slice none 0 0] 45)) (.cells #[.int .i64 pf,.int .i64 pt] 34)
 have hS1:=(hS.advA (.cells #[.int .i64 0,.int .i64 0,.int .i64 s,.slice none 0 0] 45)).advA (.cells #[.int .i64 pf,.int .i64 pt] 34)
 clear hS ok ha hP hpf hpt
 show Calls Tryz.prog 133 #[.agg #[.int .i64 0,.int .i64 0,.int .i64 s,.slice none 0 0],.agg #[.int .i64 pf,.int .i64 pt],.slice A ps.length c] w _
 go_enter Tryz.func133,Tryz.ntmps133
 go_wp2
 generalize (w.alloc (.cells #[.int .i64 0,.int .i64 0,.int .i64 s,.slice none 0 0] 45)).alloc (.cells #[.int .i64 pf,.int .i64 pt] 34) = w0 at hB0 hB1 hbel0 hS1 ⊢
 have hw0:=hbel0.size
 go_loopw [7,9,18] (fun v q i wr=>∃ (k:Nat) (L:Int),k≤ps.length∧i = .int .i64 k∧q = .int .i64 L∧0≤L∧L≤120968640∧Hid (prOk L 120968640 ((ps.drop k).map PresM.p))∧Own encIv 2 34 wr w0.heap.size v (staysN ((ps.take k).map PresM.p))∧Below w0.heap.size w0 wr) (fun _ _ i _=>ps.length - (intOf i).toNat)
 case atStart=>exact ⟨0,0,by omega,rfl,rfl,by omega,by omega,HOK.out,by simpa [staysN] using Own.nil_ _ _,Below.refl _ _⟩
 case round =>
  obtain ⟨k,L,hk,rfl,rfl,L1,L2,hp,hown,hbr⟩:=hrel
  have hbs:=hbr.size
  by_cases hlt:k < ps.length
  ·
   have HT:=Lib.hid (stays_take ps k hlt)
   have hd:=drop_head ps k hlt
   have hp1:=hp.out
   rw [hd,List.map_cons] at hp1
   obtain ⟨g1,g2,_,g4⟩:=hp1
   have g5:=prOk_le g4
   have HG4:=Lib.hid g4
   have HAK:=Lib.hid (fun h=>HA.out h _ (List.getElem_mem hlt))
   have hsl:(staysN ((ps.take k).map PresM.p)).length≤1024:=by simp [staysN]; omega
   obtain ⟨q,off,rfl,hq1,hc⟩:=(hS1.below hbr).at_ hlt
   have c0:=hc 0 _ rfl
   have c1:=hc 1 _ rfl
   have c2:=hc 2 _ rfl
   simp only [Nat.add_zero] at c0
   clear hc hd hp g4
   generalize ps[k] = x at c0 c1 c2 HT HG4 HAK g1 g2 g5
   obtain ⟨xf,xt,xA,xc,xb⟩:=x
   have g1:L≤xf:=g1
   have g2:xf < xt:=g2
   have g5:xt≤120968640:=g5
   simp only at c0 c1 c2 HT HAK
   have hqw:q < wr.heap.size:=by omega
   have hki:(k:Int) < (ps.length:Int):=by omega
   have hC0:=(hB0.adv hbr).alloc (.cells #[.int .i64 xf,.int .i64 xt,.slice xA xb.length xc] 81)
   have hC1:=(hB1.adv hbr).alloc (.cells #[.int .i64 xf,.int .i64 xt,.slice xA xb.length xc] 81)
   have hCX:=Blk.new wr 81 #[.int .i64 xf,.int .i64 xt,.slice xA xb.length xc]
   have hownA:=hown.alloc (.cells #[.int .i64 xf,.int .i64 xt,.slice xA xb.length xc] 81)
   have hbrA:=bel_alloc hbr (.cells #[.int .i64 xf,.int .i64 xt,.slice xA xb.length xc] 81)
   go_upto_region 7 with fail
   generalize wr.alloc (.cells #[.int .i64 xf,.int .i64 xt,.slice xA xb.length xc] 81) = W1 at hC0 hC1 hCX hownA hbrA ⊢
   have hl0:=hC0.lt
   have hl1:=hC1.lt
   have hlx:=hCX.lt
   have z0:=hC0.cell 0
   have z1:=hC0.cell 1
   have z2:=hC0.cell 2
   have z3:=hC0.cell 3
   simp only [nqg,nqh,nqi] at z0 z1 z2 z3
   have x0:=hCX.cell 0
   have x1:=hCX.cell 1
   have x2:=hCX.cell 2
   simp only [nqg,nqh,nqi] at x0 x1 x2
   have HC0:=Lib.hid hC0
   have HC1:=Lib.hid hC1
   have HCX:=Lib.hid hCX
   have HOWN:=Lib.hid hownA
   have HBR:=Lib.hid hbrA
   have hW1:=hbrA.size
   clear c0 c1 c2 hC0 hC1 hCX hownA hbrA hown hbr
   refine wp_region_box (aE:=?aEA) (t:=34) (zs:=#[.int .i64 0,.int .i64 0]) [0,1,2,3,4,5,6,7,8,9,10] 11 12 #[.int .i64 xf,.int .i64 xt] (by kernel_rfl) (by kernel_rfl) rfl (by kernel_rfl) (by kernel_rfl) (by rfl) (by kernel_rfl) (by kernel_rfl) (by kernel_rfl) rfl rfl rfl rfl rfl rfl rfl (fun _ _=>by go_simp) rfl (by kernel_rfl) rfl ?HA ?EA ?MA
   case HA =>
    intro F hF inst
    simp only [M3.opsAt,List.getElem?_toArray,List.getElem?_cons_zero,List.getElem?_cons_succ]
    have d0:=BwC.cellB (F:=F) (a:=⟨w.heap.size,0,none⟩) (by exact hl0) z0
    have d1:=BwC.cellB (F:=F) (a:=⟨w.heap.size,1,none⟩) (by exact hl0) z1
    have d2:=BwC.cellB (F:=F) (a:=⟨w.heap.size,2,none⟩) (by exact hl0) z2
    have d3:=BwC.cellB (F:=F) (a:=⟨w.heap.size,3,none⟩) (by exact hl0) z3
    have e0:=BwC.cellB (F:=F) (a:=⟨wr.heap.size,0,none⟩) (by exact hlx) x0
    have e1:=BwC.cellB (F:=F) (a:=⟨wr.heap.size,1,none⟩) (by exact hlx) x1
    have e2:=BwC.cellB (F:=F) (a:=⟨wr.heap.size,2,none⟩) (by exact hlx) x2
    repeat (first | go_big_quiet_step (first | (with_reducible exact BwC.call (stable_below _ _ (Nat.le_refl _)) hF _ (gridW s xf false _)) | (with_reducible exact BwC.call (stable_below _ _ (Nat.le_refl _)) hF _ (gridW s xt true _))) | quiet_step (first | (with_reducible exact BwC.call (stable_below _ _ (Nat.le_refl _)) hF _ (gridW s xf false _)) | (with_reducible exact BwC.call (stable_below _ _ (Nat.le_refl _)) hF _ (gridW s xt true _))))
    refine wpQuiet_nil ?_
    rfl
   case EA=>exact fun _=>⟨rfl,rfl⟩
   case MA =>
    intro g w2 hge hBV hb2
    try simp only [Act.put,List.setIfInBounds_toArray,List.set_cons_succ,List.set_cons_zero]
    clear z0 z1 z2 z3 x0 x1 x2 hl0 hl1 hlx
    have D0:=HC0.out.adv hb2
    have D1:=HC1.out.adv hb2
    have DX:=HCX.out.adv hb2
    have hl0:=D0.lt
    have hl1:=D1.lt
    have hlx:=DX.lt
    have z0:=D0.cell 0
    have z1:=D0.cell 1
    have z2:=D0.cell 2
    have z3:=D0.cell 3
    simp only [nqg,nqh,nqi] at z0 z1 z2 z3
    have p0:=D1.cell 0
    have p1:=D1.cell 1
    simp only [nqg,nqh,nqi] at p0 p1
    have x0:=DX.cell 0
    have x1:=DX.cell 1
    have x2:=DX.cell 2
    simp only [nqg,nqh,nqi] at x0 x1 x2
    have HBV:=Lib.hid hBV
    have HB2:=Lib.hid hb2
    have hgl:=hBV.lt
    have v0:=hBV.cell 0
    have v1:=hBV.cell 1
    simp only [nqg,nqh,nqi] at v0 v1
    clear D0 D1 DX hBV hb2
    go_upto_region 8 with fail
    go_cut [43] (fun v wx=>∃ b,v = .bool b∧(b = true→pf = xf)∧Blk wx g 34 #[.int .i64 xf,.int .i64 xt]∧RowKit.Below W1.heap.size W1 wx)
    case first =>
     rcases P with _ | _
     ·
      go_wp2
      go_meet
      exact ⟨false,rfl,fun h=>(by cases h),HBV.out,HB2.out⟩
     ·
      have hpl:(⟨pf,pt⟩ : IvT) ≠ ⟨0,0⟩:=fun e=>by
       have h1:=HP.out
       injection e with e1 e2
       rw [e1,e2] at h1
       simp at h1
      have hak:=HAK.out hpl
      have HK:=Lib.hid hak
      clear hpl hak
      go_wp2_with fail
      refine (nearW xf pf s _ ⟨by omega,by omega⟩ HPF.out).mono ?_
      rintro e w3 ⟨rfl,hb3⟩
      obtain ⟨b,hb⟩ : ∃ b,decide (nearB xf pf s) = b:=⟨_,rfl⟩
      have HBE:Hid (b = true→pf = xf):=fun h=>HK.out.1 (of_decide_eq_true (hb.trans h))
      rw [hb]
      have hBV3:=HBV.out.adv hb3
      have hb23:=bel_adv HB2.out hb3
      clear hb hb3
      go_wp2
      go_meet
      exact ⟨b,rfl,HBE.out,hBV3,hb23⟩
    case rest =>
     clear z0 z1 z2 z3 x0 x1 x2 p0 p1 v0 v1 HBV HB2 hgl hl0 hl1 hlx
     obtain ⟨b,rfl,hbe,hBV,hb2⟩:=hcut
     have D0:=HC0.out.adv hb2
     have D1:=HC1.out.adv hb2
     have DX:=HCX.out.adv hb2
     have hl0:=D0.lt
     have hl1:=D1.lt
     have hlx:=DX.lt
     have z0:=D0.cell 0
     have z1:=D0.cell 1
     have z2:=D0.cell 2
     have z3:=D0.cell 3
     simp only [nqg,nqh,nqi] at z0 z1 z2 z3
     have p0:=D1.cell 0
     have p1:=D1.cell 1
     simp only [nqg,nqh,nqi] at p0 p1
     have x0:=DX.cell 0
     have x1:=DX.cell 1
     have x2:=DX.cell 2
     simp only [nqg,nqh,nqi] at x0 x1 x2
     have HBV:=Lib.hid hBV
     have HB2:=Lib.hid hb2
     have HBE:=Lib.hid hbe
     have hgl:=hBV.lt
     have hfz:=hBV.frozen 0
     have v0:=hBV.cell 0
     have v1:=hBV.cell 1
     simp only [nqg,nqh,nqi] at v0 v1
     clear D0 D1 DX hBV hb2 hbe
     go_upto_if 43 with fail
     go_cut [] (fun wx=>Blk wx g 34 #[.int .i64 xf,.int .i64 xt]∧RowKit.Below W1.heap.size W1 wx)
     case first =>
      rcases b with _ | _
      ·
       go_wp2
       go_meet
       exact ⟨HBV.out,HB2.out⟩
      ·
       have hBW:Blk (wc.setCell ⟨g,0,none⟩ (.int .i64 pf)) g 34 #[.int .i64 xf,.int .i64 xt]:=by
        have:=HBV.out.set_ 0 (.int .i64 pf)
        rw [HBE.out rfl] at this ⊢
        exact this
       have hbW:=bel_set HB2.out hge 0 (.int .i64 pf)
       go_wp2
       go_meet
       exact ⟨hBW,hbW⟩
     case rest =>
      clear z0 z1 z2 z3 x0 x1 x2 p0 p1 v0 v1 HBV HB2 HBE hgl hl0 hl1 hlx hfz b
      obtain ⟨hBV,hb2⟩:=hcut
      have D0:=HC0.out.adv hb2
      have D1:=HC1.out.adv hb2
      have DX:=HCX.out.adv hb2
      have hl0:=D0.lt
      have hl1:=D1.lt
      have hlx:=DX.lt
      have z0:=D0.cell 0
      have z1:=D0.cell 1
      have z2:=D0.cell 2
      have z3:=D0.cell 3
      simp only [nqg,nqh,nqi] at z0 z1 z2 z3
      have p0:=D1.cell 0
      have p1:=D1.cell 1
      simp only [nqg,nqh,nqi] at p0 p1
      have x0:=DX.cell 0
      have x1:=DX.cell 1
      have x2:=DX.cell 2
      simp only [nqg,nqh,nqi] at x0 x1 x2
      have HBV:=Lib.hid hBV
      have HB2:=Lib.hid hb2
      have hgl:=hBV.lt
      have v0:=hBV.cell 0
      have v1:=hBV.cell 1
      simp only [nqg,nqh,nqi] at v0 v1
      clear D0 D1 DX hBV hb2
      go_upto_region 10 with fail
      go_cut [57] (fun v wx=>∃ b,v = .bool b∧(b = true→pt = xt)∧Blk wx g 34 #[.int .i64 xf,.int .i64 xt]∧RowKit.Below W1.heap.size W1 wx)
      case first =>
       rcases P with _ | _
       ·
        go_wp2
        go_meet
        exact ⟨false,rfl,fun h=>(by cases h),HBV.out,HB2.out⟩
       ·
        have hpl:(⟨pf,pt⟩ : IvT) ≠ ⟨0,0⟩:=fun e=>by
         have h1:=HP.out
         injection e with e1 e2
         rw [e1,e2] at h1
         simp at h1
        have hak:=HAK.out hpl
        have HK:=Lib.hid hak
        clear hpl hak
        go_wp2_with fail
        refine (nearW xt pt s _ ⟨by omega,by omega⟩ HPT.out).mono ?_
        rintro e w3 ⟨rfl,hb3⟩
        obtain ⟨b,hb⟩ : ∃ b,decide (nearB xt pt s) = b:=⟨_,rfl⟩
        have HBE:Hid (b = true→pt = xt):=fun h=>HK.out.2 (of_decide_eq_true (hb.trans h))
        rw [hb]
        have hBV3:=HBV.out.adv hb3
        have hb23:=bel_adv HB2.out hb3
        clear hb hb3
        go_wp2
        go_meet
        exact ⟨b,rfl,HBE.out,hBV3,hb23⟩
      case rest =>
       clear z0 z1 z2 z3 x0 x1 x2 p0 p1 v0 v1 HBV HB2 hgl hl0 hl1 hlx
       obtain ⟨b,rfl,hbe,hBV,hb2⟩:=hcut
       have D0:=HC0.out.adv hb2
       have D1:=HC1.out.adv hb2
       have DX:=HCX.out.adv hb2
       have hl0:=D0.lt
       have hl1:=D1.lt
       have hlx:=DX.lt
       have z0:=D0.cell 0
       have z1:=D0.cell 1
       have z2:=D0.cell 2
       have z3:=D0.cell 3
       simp only [nqg,nqh,nqi] at z0 z1 z2 z3
       have p0:=D1.cell 0
       have p1:=D1.cell 1
       simp only [nqg,nqh,nqi] at p0 p1
       have x0:=DX.cell 0
       have x1:=DX.cell 1
       have x2:=DX.cell 2
       simp only [nqg,nqh,nqi] at x0 x1 x2
       have HBV:=Lib.hid hBV
       have HB2:=Lib.hid hb2
       have HBE:=Lib.hid hbe
       have hgl:=hBV.lt
       have hfz:=hBV.frozen 1
       have v0:=hBV.cell 0
       have v1:=hBV.cell 1
       simp only [nqg,nqh,nqi] at v0 v1
       clear D0 D1 DX hBV hb2 hbe
       go_upto_if 57 with fail
       go_cut [] (fun wx=>Blk wx g 34 #[.int .i64 xf,.int .i64 xt]∧RowKit.Below W1.heap.size W1 wx)
       case first =>
        rcases b with _ | _
        ·
         go_wp2
         go_meet
         exact ⟨HBV.out,HB2.out⟩
        ·
         have hBW:Blk (wc.setCell ⟨g,1,none⟩ (.int .i64 pt)) g 34 #[.int .i64 xf,.int .i64 xt]:=by
          have:=HBV.out.set_ 1 (.int .i64 pt)
          rw [HBE.out rfl] at this ⊢
          exact this
         have hbW:=bel_set HB2.out hge 1 (.int .i64 pt)
         go_wp2
         go_meet
         exact ⟨hBW,hbW⟩
       case rest =>
        clear z0 z1 z2 z3 x0 x1 x2 p0 p1 v0 v1 HBV HB2 HBE hgl hl0 hl1 hlx hfz b
        obtain ⟨hBV,hb2⟩:=hcut
        have hgl:=hBV.lt
        have hfz0:=hBV.frozen 0
        have hfz1:=hBV.frozen 1
        have v0:=hBV.cell 0
        have v1:=hBV.cell 1
        simp only [nqg,nqh,nqi] at v0 v1
        have hownW:=HOWN.out.adv hb2
        have hbf:=bel_adv HBR.out hb2
        have hset0:=only_setCell (only_refl wc (some g)) (p:=⟨g,0,none⟩) (.inl rfl) (.int .i64 xf)
        have hset1:=only_setCell (only_refl (wc.setCell ⟨g,0,none⟩ (.int .i64 xf)) (some g)) (p:=⟨g,1,none⟩) (.inl rfl) (.int .i64 xt)
        have hset:=only_trans hset0 hset1
        have hownS:=hownW.keptNe hset (fun q' hq' e=>by injection e with e; have:=(HOWN.out.block_lt hq').2; omega)
        have hbS:=bel_only hbf hset (fun q' e=>by injection e; omega)
        have HOS:=Lib.hid hownS
        have HBS:=Lib.hid hbS
        have HGR:=Lib.hid hbf.size
        clear hBV hb2 hownW hbf hset0 hset1 hset hownS hbS
        go_wp2_with (at_builtin; go_loud (refine wpList_append_one _ _ 79 (⟨xf,xt⟩ : IvT) _ 16 _ infoIv Tryz.underlying79 HOS.out encIv_len (by omega) rfl (encIv_one _) (Nat.lt_of_le_of_lt hsl (by omega)) (by omega) (by have:=HBS.out.size; exact this) (by rfl) (by rfl) (by rfl) (by rfl) (by simp) (by rfl) ?_); intro v2 w6 hown6 hg6)
        go_roundw
        case rel=>exact ⟨k+1,xt,by omega,by go_num,by go_num,by omega,by omega,HG4.out,by rw [HT.out]; exact hown6,bel_only HBS.out hg6 (fun g' hg'=>(HOS.out.block_lt hg').1)⟩
        case measure=>simp [intOf]; omega
  ·
   obtain rfl:k = ps.length:=by omega
   rw [List.take_length] at hown
   have HOWN:=Lib.hid (hown.weaken hw0)
   have hbf:=bel_adv hbel0 hbr
   clear hown hp
   go_wp2
   go_ret
   exact ⟨_,rfl,HOWN.out,hbf⟩
end
end Go.Proofs.YtopekilofdadnaaGreatDoor
namespace Go.Proofs.YtopekilofdadnaaGreatDoor
open Go.RowKit
theorem joinN_len (r:List IvT) (v:IvT) : (joinN r v).length≤r.length+1:=by
 unfold joinN
 split
 ·
  omega
 ·
  split
  ·
   simp
  ·
   split
   ·
    simp
   ·
    simp
theorem dropN_step {f:Int} {os:List IvT} {n:Nat} (h:n < os.length) (ht:os[n].t≤f) : dropN f (os.drop (n+1)) = dropN f (os.drop n):=by
 rw [drop_head os n h,dropN,if_pos ht]
theorem dropN_end {f:Int} {os:List IvT} {n:Nat} (h : ¬ (n < os.length∧(os.getD n ⟨0,0⟩).t≤f)) : dropN f (os.drop n) = os.drop n:=by
 by_cases hn:n < os.length
 ·
  rw [List.getD_eq_getElem?_getD,List.getElem?_eq_getElem hn] at h
  simp only [Option.getD_some] at h
  rw [drop_head os n hn,dropN,if_neg (fun e=>h ⟨hn,e⟩)]
 ·
  rw [List.drop_of_length_le (by omega)]; rfl
theorem cutN_step {t:Int} {os:List IvT} {i:Nat} {R:List IvT} {F:Int} (h:i < os.length) (ht:os[i].f < t) : cutN t (os.drop i) (R,F) = cutN t (os.drop (i+1)) (joinN R ⟨F,os[i].f⟩,os[i].t):=by
 rw [drop_head os i h,cutN,if_pos ht]
theorem cutN_end {t:Int} {os:List IvT} {i:Nat} {p:List IvT × Int} (h : ¬ (i < os.length∧(os.getD i ⟨0,0⟩).f < t)) : cutN t (os.drop i) p = p:=by
 by_cases hn:i < os.length
 ·
  rw [List.getD_eq_getElem?_getD,List.getElem?_eq_getElem hn] at h
  simp only [Option.getD_some] at h
  rw [drop_head os i hn,cutN,if_neg (fun e=>h ⟨hn,e⟩)]
 ·
  rw [List.drop_of_length_le (by omega)]; rfl
section
set_option maxHeartbeats 8000000
set_option maxRecDepth 100000
theorem withoutW (A:Option Addr) (c:Nat) (l:List IvT) (B:Option Addr) (d:Nat) (os:List IvT) (w:World) (hS:SliceOf encIv 2 w w.heap.size A l) (hO:SliceOf encIv 2 w w.heap.size B os) (hl:l.length≤64) (hol:os.length≤1024) :
  Calls Tryz.prog 136 #[.slice A l.length c,.slice B os.length d] w fun e w'=>∃ v,e = .returned v∧Own encIv 2 34 w' w.heap.size v (withoutN [] os l)∧(withoutN [] os l).length≤65600∧Below w.heap.size w w':=by
 go_enter Tryz.func136,Tryz.ntmps136
 go_wp2
 go_loopw [5,6,12] (fun v u i wr=>∃ (k n:Nat) (R:List IvT) (V:Value),V = v∧k≤l.length∧i = .int .i64 k∧u = .int .i64 n∧n≤os.length∧Own encIv 2 34 wr w.heap.size V R∧R.length≤k * 1025∧Hid (withoutN R (os.drop n) (l.drop k) = withoutN [] os l)∧Below w.heap.size w wr) (fun _ _ i _=>l.length - (intOf i).toNat)
 case atStart=>exact ⟨0,0,[],_,rfl,by omega,rfl,rfl,by omega,Own.nil_ _ _,by simp,rfl,Below.refl _ _⟩
 case round =>
  obtain ⟨k,n,R,V,rfl,hk,rfl,rfl,hn,hown,hRl,hE,hbr⟩:=hrel
  have hbs:=hbr.size
  by_cases hlt:k < l.length
  ·
   obtain ⟨q,off,rfl,hq,hc⟩:=(hS.below hbr).at_ hlt
   have c0:=hc 0 _ rfl
   have c1:=hc 1 _ rfl
   simp only [Nat.add_zero] at c0
   have hqw:q < wr.heap.size:=by omega
   have hki:(k:Int) < (l.length:Int):=by omega
   have hE1:=hE.out
   rw [drop_head l k hlt,withoutN] at hE1
   clear hc hE
   generalize l[k] = x at c0 c1 hE1
   obtain ⟨f,t⟩:=x
   simp only at c0 c1 hE1
   have HE:=Lib.hid hE1
   have hBX:=Blk.new wr 34 #[.int .i64 f,.int .i64 t]
   have hownA:=hown.alloc (.cells #[.int .i64 f,.int .i64 t] 34)
   have hbrA:=bel_alloc hbr (.cells #[.int .i64 f,.int .i64 t] 34)
   have HFAR:Hid (V.ownBlock ≠ some wr.heap.size):=fun e=>by have:=(hown.block_lt e).2; omega
   clear hE1 hown hbr
   obtain ⟨wo,hwo⟩ : ∃ wo:World,wo = wr:=⟨_,rfl⟩
   go_wp2
   generalize hb8:wr.heap.size = b8 at hBX HFAR ⊢
   generalize wr.alloc (.cells #[.int .i64 f,.int .i64 t] 34) = W8 at hBX hownA hbrA ⊢
   have hB8w:w.heap.size≤b8:=by omega
   clear hb8 hwo hbs
   have hW8:=hbrA.size
   have HOWN:=Lib.hid hownA
   have HBR:=Lib.hid hbrA
   have HBX:=Lib.hid hBX
   clear hownA hbrA hBX c0 c1 hqw
   go_loopw [6] (fun j wz=>∃ n2:Nat,j = .int .i64 n2∧n2≤os.length∧Hid (dropN f (os.drop n2) = dropN f (os.drop n))∧RowKit.Below W8.heap.size W8 wz) (fun j _=>os.length - (intOf j).toNat)
   case atStart=>exact ⟨n,rfl,hn,rfl,Below.refl _ _⟩
   case round =>
    obtain ⟨n2,rfl,hn2,hD,hbz⟩:=hrel
    have hbzs:=hbz.size
    have hBZ:=HBX.out.adv hbz
    have hbl:=hBZ.lt
    have y0:=hBZ.cell 0
    have y1:=hBZ.cell 1
    simp only [nqg,nqh,nqi] at y0 y1
    clear hBZ
    go_upto_region 6 with fail
    go_cut [29] (fun z wx=>z = .bool (decide (n2 < os.length∧(os.getD n2 ⟨0,0⟩).t≤f))∧RowKit.Below wr.heap.size wr wx)
    case first =>
     by_cases hl2:n2 < os.length
     ·
      obtain ⟨q2,off2,rfl,hq2,hd⟩:=((hO.below (HBR.out.trans (hbz.mono hW8)))).at_ hl2
      have d1:=hd 1 _ rfl
      have hqz:q2 < wr.heap.size:=by omega
      have hn2i:(n2:Int) < (os.length:Int):=by omega
      have hn20:(0:Int)≤(n2:Int):=by omega
      have hgd:os.getD n2 ⟨0,0⟩ = os[n2]:=by rw [List.getD_eq_getElem?_getD,List.getElem?_eq_getElem hl2]; rfl
      have HGD:=Lib.hid hgd
      clear hd hgd
      generalize os[n2] = o at d1 HGD
      by_cases hto:o.t≤f
      ·
       have HB:Hid (decide (n2 < os.length∧(os.getD n2 ⟨0,0⟩).t≤f) = true):=decide_eq_true ⟨hl2,by rw [HGD.out]; exact hto⟩
       go_quiet (fail)
       go_wp2
       go_meet
       exact ⟨by rw [HB.out],below_drewN (Below.refl _ _) _⟩
      ·
       have HB:Hid (decide (n2 < os.length∧(os.getD n2 ⟨0,0⟩).t≤f) = false):=decide_eq_false (fun e=>hto (by rw [← HGD.out]; exact e.2))
       go_quiet (fail)
       go_wp2
       go_meet
       exact ⟨by rw [HB.out],below_drewN (Below.refl _ _) _⟩
     ·
      have hnl:¬ ((n2:Int) < (os.length:Int)):=by omega
      have HB:Hid (decide (n2 < os.length∧(os.getD n2 ⟨0,0⟩).t≤f) = false):=decide_eq_false (fun e=>hl2 e.1)
      go_quiet (fail)
      go_wp2
      go_meet
      exact ⟨by rw [HB.out],below_drewN (Below.refl _ _) _⟩
    case rest =>
     clear y0 y1 hbl
     obtain ⟨rfl,hbc⟩:=hcut
     have hbzc:=bel_adv hbz hbc
     clear hbc
     by_cases hc6:n2 < os.length∧(os.getD n2 ⟨0,0⟩).t≤f
     ·
      have hd6:decide (n2 < os.length∧(os.getD n2 ⟨0,0⟩).t≤f) = true:=decide_eq_true hc6
      obtain ⟨hl2,hto⟩:=hc6
      have HST:Hid (dropN f (os.drop (n2+1)) = dropN f (os.drop n)):=by
       rw [Hid,dropN_step hl2 (by rw [List.getD_eq_getElem?_getD,List.getElem?_eq_getElem hl2] at hto; exact hto),hD.out]
      rw [hd6]
      clear hd6 hto
      go_wp2
      go_roundw
      case rel=>exact ⟨n2+1,by go_num,by omega,HST,hbzc⟩
      case measure=>simp [intOf]; omega
     ·
      have hd6:decide (n2 < os.length∧(os.getD n2 ⟨0,0⟩).t≤f) = false:=decide_eq_false hc6
      have hDE:dropN f (os.drop n) = os.drop n2:=by rw [← hD.out,dropN_end hc6]
      have hE1:=HE.out
      rw [hDE] at hE1
      have HE2:=Lib.hid hE1
      rw [hd6]
      clear hd6 hc6 hDE hE1 hD HE
      have hOZ:=HOWN.out.adv hbzc
      have hBZ:=HBX.out.adv hbzc
      have hbf:=bel_adv HBR.out hbzc
      have HFAR2:=HFAR
      clear hbz hbzs hbzc HOWN HBX HBR HFAR
      obtain ⟨w9,rfl⟩ : ∃ w9:World,w9 = wc:=⟨_,rfl⟩
      go_wp2
      go_loopw [5,9] (fun v j wz=>∃ (i:Nat) (R':List IvT) (F:Int) (V':Value),V' = v∧j = .int .i64 i∧i≤os.length∧Own encIv 2 34 wz w.heap.size V' R'∧R'.length≤k * 1025+i∧V'.ownBlock ≠ some b8∧Blk wz b8 34 #[.int .i64 F,.int .i64 t]∧Hid (cutN t (os.drop i) (R',F) = cutN t (os.drop n2) (R,f))∧RowKit.Below w.heap.size w wz) (fun _ j _=>os.length - (intOf j).toNat)
      case atStart=>exact ⟨n2,R,f,V,rfl,rfl,hn2,hOZ,by omega,HFAR2.out,hBZ,rfl,hbf⟩
      case round =>
       clear hOZ hBZ hbf
       obtain ⟨i,R',F,V',rfl,rfl,hi,hown,hRl',hfar,hBZ,hC,hbz⟩:=hrel
       have hbzs:=hbz.size
       have hbl:=hBZ.lt
       have HBZ:=Lib.hid hBZ
       have HOWN:=Lib.hid hown
       have HF:=Lib.hid hfar
       have HBR:=Lib.hid hbz
       have y0:=hBZ.cell 0
       have y1:=hBZ.cell 1
       simp only [nqg,nqh,nqi] at y0 y1
       clear hBZ hown hfar
       go_upto_region 9 with fail
       go_cut [46] (fun z wx=>z = .bool (decide (i < os.length∧(os.getD i ⟨0,0⟩).f < t))∧RowKit.Below wr.heap.size wr wx)
       case first =>
        by_cases hl2:i < os.length
        ·
         obtain ⟨q2,off2,rfl,hq2,hd⟩:=(hO.below hbz).at_ hl2
         have d0:=hd 0 _ rfl
         simp only [Nat.add_zero] at d0
         have hqz:q2 < wr.heap.size:=by omega
         have hn2i:(i:Int) < (os.length:Int):=by omega
         have hn20:(0:Int)≤(i:Int):=by omega
         have hgd:os.getD i ⟨0,0⟩ = os[i]:=by rw [List.getD_eq_getElem?_getD,List.getElem?_eq_getElem hl2]; rfl
         have HGD:=Lib.hid hgd
         clear hd hgd
         generalize os[i] = o at d0 HGD
         by_cases hto:o.f < t
         ·
          have HB:Hid (decide (i < os.length∧(os.getD i ⟨0,0⟩).f < t) = true):=decide_eq_true ⟨hl2,by rw [HGD.out]; exact hto⟩
          go_quiet (fail)
          go_wp2
          go_meet
          exact ⟨by rw [HB.out],below_drewN (Below.refl _ _) _⟩
         ·
          have HB:Hid (decide (i < os.length∧(os.getD i ⟨0,0⟩).f < t) = false):=decide_eq_false (fun e=>hto (by rw [← HGD.out]; exact e.2))
          go_quiet (fail)
          go_wp2
          go_meet
          exact ⟨by rw [HB.out],below_drewN (Below.refl _ _) _⟩
        ·
         have hnl:¬ ((i:Int) < (os.length:Int)):=by omega
         have HB:Hid (decide (i < os.length∧(os.getD i ⟨0,0⟩).f < t) = false):=decide_eq_false (fun e=>hl2 e.1)
         go_quiet (fail)
         go_wp2
         go_meet
         exact ⟨by rw [HB.out],below_drewN (Below.refl _ _) _⟩
       case rest =>
        clear y0 y1 hbl
        obtain ⟨rfl,hbc⟩:=hcut
        have hBC:=HBZ.out.adv hbc
        have hOC:=HOWN.out.adv hbc
        have hbC:=HBR.out.trans (hbc.mono HBR.out.size)
        have hbcs:=hbc.size
        clear HBZ HOWN HBR hbz hbc
        have hbl:=hBC.lt
        have HBC:=Lib.hid hBC
        have HOC:=Lib.hid hOC
        have HBCW:=Lib.hid hbC
        have y0:=hBC.cell 0
        have y1:=hBC.cell 1
        simp only [nqg,nqh,nqi] at y0 y1
        clear hBC hOC
        by_cases hc6:i < os.length∧(os.getD i ⟨0,0⟩).f < t
        ·
         have hd6:decide (i < os.length∧(os.getD i ⟨0,0⟩).f < t) = true:=decide_eq_true hc6
         obtain ⟨hl2,hto⟩:=hc6
         rw [List.getD_eq_getElem?_getD,List.getElem?_eq_getElem hl2] at hto
         have HST:=Lib.hid ((cutN_step (R:=R') (F:=F) hl2 hto).symm.trans hC.out)
         obtain ⟨q2,off2,rfl,hq2,hd⟩:=(hO.below hbC).at_ hl2
         have d0:=hd 0 _ rfl
         have d1:=hd 1 _ rfl
         simp only [Nat.add_zero] at d0
         have hqz:q2 < wc.heap.size:=by have:=hbC.size; omega
         have hn2i:(i:Int) < (os.length:Int):=by omega
         have hn20:(0:Int)≤(i:Int):=by omega
         have HQZ:=Lib.hid hq2
         rw [hd6]
         clear hd hd6 hto hC hbC
         generalize os[i] = o at d0 d1 HST
         obtain ⟨of_,ot⟩:=o
         simp only at d0 d1 HST
         have HD1:=Lib.hid d1
         go_upto_region 11 with fail
         go_still_tail 9,(by kernel_rfl)
         change wpList _ _ _ _ _ wc.drew
         have hBD:Blk wc.drew b8 34 #[.int .i64 F,.int .i64 t]:=HBC.out
         have hOD:Own encIv 2 34 wc.drew w.heap.size V' R':=HOC.out
         have hbD:RowKit.Below w.heap.size w wc.drew:=HBCW.out.drew
         have d1':wc.drew.cell? ⟨q2,off2+i * 2+1,none⟩ = some (.int .i64 ot):=HD1.out
         have hlD:b8 < wc.drew.heap.size:=hbl
         generalize wc.drew = wd at hBD hOD hbD d1' hlD ⊢
         clear y0 y1 d0 d1 hqz
         go_wp2_with fail
         refine (joinW w.heap.size V' R' F of_ wd hOD hbD.size (by omega)).mono ?_
         rintro e w5 ⟨v5,rfl,hown5,hg5,halt⟩
         have hbelD:=only_below hg5 hbD.size (fun g hg=>(hOD.block_lt hg).1)
         have e1:=(hbelD.cell (p:=⟨q2,off2+i * 2+1,none⟩) HQZ.out).trans d1'
         have hB5:=hBD.grown hg5 (fun e=>HF.out e.symm)
         have hbel5:=bel_only hbD hg5 (fun g hg=>(hOD.block_lt hg).1)
         have hne5:v5.ownBlock ≠ some b8:=by
          rcases halt with h | ⟨q',h1,h2⟩
          ·
           rw [h]; exact HF.out
          ·
           rw [h2]; intro e; injection e with e; omega
         have hjl:=joinN_len R' ⟨F,of_⟩
         have hqz5:q2 < w5.heap.size:=by have:=hbel5.size; have:=HQZ.out; omega
         have hl5:=hB5.lt
         have hfz:=hB5.frozen 0
         have HB6:Hid (Blk (w5.setCell ⟨b8,0,none⟩ (.int .i64 ot)) b8 34 #[.int .i64 ot,.int .i64 t]):=hB5.set_ 0 (.int .i64 ot)
         have HO6:=Lib.hid (hown5.setCell (p:=⟨b8,0,none⟩) (fun g hg e=>hne5 (by rw [hg,e])) (.int .i64 ot))
         have HBEL:=Lib.hid (bel_set hbel5 hB8w 0 (.int .i64 ot))
         have HNE5:=Lib.hid hne5
         have y0:=hB5.cell 0
         have y1:=hB5.cell 1
         simp only [nqg,nqh,nqi] at y0 y1
         clear hown5 hg5 halt hbel5 hB5 hbelD hBD hOD hbD d1' hlD hne5
         go_wp2
         go_roundw
         case rel=>exact ⟨i+1,joinN R' ⟨F,of_⟩,ot,v5,rfl,by go_num,by omega,HO6.out,by omega,HNE5.out,HB6.out,HST.out,HBEL.out⟩
         case measure=>simp [intOf]; omega
        ·
         have hd6:decide (i < os.length∧(os.getD i ⟨0,0⟩).f < t) = false:=decide_eq_false hc6
         have hCE:=hC.out
         rw [cutN_end hc6] at hCE
         have HCE:=Lib.hid hCE
         rw [hd6]
         clear hd6 hc6 hCE hC
         go_wp2_with fail
         refine (joinW w.heap.size V' R' F t wc HOC.out HBCW.out.size (by omega)).mono ?_
         rintro e w5 ⟨v5,rfl,hown5,hg5,halt⟩
         have hbel5:=bel_only HBCW.out hg5 (fun g hg=>(HOC.out.block_lt hg).1)
         have HE3:=HE2.out
         rw [← HCE.out] at HE3
         simp only at HE3
         have HE4:=Lib.hid HE3
         have hjl:=joinN_len R' ⟨F,t⟩
         have HOWN5:=Lib.hid hown5
         have HBEL:=Lib.hid hbel5
         clear hown5 hg5 halt hbel5 HE3 y0 y1
         go_wp2
         go_roundw
         case rel=>exact ⟨k+1,n2,joinN R' ⟨F,t⟩,v5,rfl,by omega,by go_num,rfl,by omega,HOWN5.out,by omega,HE4.out,HBEL.out⟩
         case measure=>simp [intOf]; omega
  ·
   obtain rfl:k = l.length:=by omega
   have hE2:=hE.out
   rw [List.drop_length,withoutN] at hE2
   have HOWN:=Lib.hid hown
   have HE2:=Lib.hid hE2
   clear hE hE2 hown
   go_wp2
   go_ret
   exact ⟨_,rfl,by rw [← HE2.out]; exact HOWN.out,by rw [← HE2.out]; omega,hbr⟩
end
end Go.Proofs.YtopekilofdadnaaGreatDoor
