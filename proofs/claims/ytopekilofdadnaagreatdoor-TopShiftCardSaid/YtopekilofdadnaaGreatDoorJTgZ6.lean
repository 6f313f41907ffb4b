/- Joined texts: TgZ6 TgG TgT2 TgX. Conditions: as stated. -/
import Derived.Test.YtopekilofdadnaaGreatDoorJLeaf
import Derived.Test.YtopekilofdadnaaGreatDoorJTgE
import Derived.Test.YtopekilofdadnaaGreatDoorJBox
import Derived.Test.YtopekilofdadnaaGreatDoorJTgO
import Derived.Test.YtopekilofdadnaaGreatDoorJTgZ2
import Derived.Test.YtopekilofdadnaaGreatDoorJTgF
import Derived.Test.YtopekilofdadnaaGreatDoorJTgW5
namespace Go.Proofs.YtopekilofdadnaaGreatDoor
open Go.RowKit Go.Sort Go.Shelf
section
set_option maxHeartbeats 8000000
set_option maxRecDepth 100000
theorem addAnomZ (base bs gd N : Nat) (a b : Int) (rows:Int→Option RowM) (z:ZoneM) (A:Option Addr) (c:Nat) (l:List AnomT) (w:World) (h:SheetAt w base bs gd N a b rows) (hbase:base≤w.heap.size) (hz:ZoneOk z.t) (hZ:SliceOf encCh 2 w base z.A z.ch) (hS:SliceOf encAn 2 w base A l) (hl : ∀ x ∈ l,0≤x.time∧x.time≤120968639) (hln:l.length≤100000) (hN:N≤16777216)
  (hA0:∀ d,0≤d∧d≤84005→((plainR rows d).getD ([],[])).2.length≤1000) :
  Calls Tryz.prog 32 #[.pointer (some ⟨bs,0,none⟩),z.val,.slice A l.length c] w (AnomPost base bs gd a b (plainR rows) z.t l (N+l.length) w):=by
 have HL:=Lib.hid hl
 have HA0:=Lib.hid hA0
 have HZO:=Lib.hid hz
 have HH:=Lib.hid h
 obtain ⟨zo,ZA,zc,zl⟩:=z
 have hZ0:=hZ
 have hb0:=below_new w (.cells #[.int .i64 zo,.slice ZA zl.length zc] 27)
 have hBZ:=Blk.new w 27 #[.int .i64 zo,.slice ZA zl.length zc]
 have HBZ:=Lib.hid hBZ
 have HH0:=Lib.hid (h.adv hb0)
 show Calls Tryz.prog 32 #[.pointer (some ⟨bs,0,none⟩),.agg #[.int .i64 zo,.slice ZA zl.length zc],.slice A l.length c] w _
 have HZI:=Lib.hid hZ0
 clear h hl hA0 hz hZ hZ0 hBZ
 go_enter Tryz.func32,Tryz.ntmps32
 go_wp2
 go_loopw [13] (fun i wr=>∃ (k:Nat) (rows2:Int→Option RowM),k≤l.length∧i = .int .i64 k∧SheetAt wr base bs gd (N+k) a b rows2∧Hid (∀ d,0≤d∧d≤84005→plainR rows2 d = plusAn (ZoneM.mk zo ZA zc zl).t (l.take k) a b (plainR rows) d)∧Blk wr w.heap.size 27 #[.int .i64 zo,.slice ZA zl.length zc]∧Below base w wr) (fun i _=>l.length - (intOf i).toNat)
 case atStart=>exact ⟨0,rows,by omega,rfl,HH0.out,fun d hd=>by simp [plusAn,anomOf],HBZ.out,hb0.mono hbase⟩
 case round =>
  clear hb0
  obtain ⟨k,rows2,hk,rfl,hsh,hPL,hbz,hbr⟩:=hrel
  have hbs:=hbr.size
  by_cases hlt:k < l.length
  ·
   have ht:=HL.out _ (List.getElem_mem hlt)
   have HT:=Lib.hid (List.take_succ_eq_append_getElem hlt)
   obtain ⟨q,off,rfl,hq,hc⟩:=(hS.below hbr).at_ hlt
   have c0:=hc 0 _ rfl
   have c1:=hc 1 _ rfl
   simp only [Nat.add_zero] at c0
   have hqw:q < wr.heap.size:=by omega
   have hki:(k:Int) < (l.length:Int):=by omega
   clear hc
   generalize l[k] = x at c0 c1 HT ht
   obtain ⟨kd,tm⟩:=x
   obtain ⟨t1,t2⟩:=ht
   simp only at c0 c1 HT t1 t2
   have hbA:=below_new wr (.cells #[.int .i64 kd,.int .i64 tm] 198)
   have hBX:=Blk.new wr 198 #[.int .i64 kd,.int .i64 tm]
   have HSH:=Lib.hid (hsh.adv hbA)
   have hBZ:=hbz.adv hbA
   have HBE:=Lib.hid (hbr.trans (hbA.mono (by omega)))
   obtain ⟨wA,hwA⟩ : ∃ wA,wA = wr.alloc (.cells #[.int .i64 kd,.int .i64 tm] 198):=⟨_,rfl⟩
   have HWA:=Lib.hid hwA
   rw [← hwA] at hBX hBZ
   have HSH:Hid (SheetAt wA base bs gd (N+k) a b rows2):=by rw [HWA.out]; exact HSH.out
   have HBE:Hid (Below base w wA):=by rw [HWA.out]; exact HBE.out
   have hwr:w.heap.size≤wr.heap.size:=by have:=hbr.size; omega
   have hzl:=hbz.lt
   have zz0:=hbz.cell 0
   have zz1:=hbz.cell 1
   simp only [nqg,nqh,nqi] at zz0 zz1
   have HNX:=Lib.hid (fun d g (hg:(rowAt rows2 d).ownA = some g)=>((hsh.rowT d).2.block_lt hg).2)
   clear hsh hbz hbA hwA
   go_wp2_with fail
   rw [← HWA.out]
   refine (dayC ⟨zo,ZA,zc,zl⟩ tm _ HZO.out ((HZI.out.below HBE.out).more (by have:=HBE.out.size; omega)) t1 t2).mono ?_
   rintro e w4 ⟨rfl,hb4⟩
   obtain ⟨day,hday⟩ : ∃ day,dayN (ZoneM.mk zo ZA zc zl).t tm = day:=⟨_,rfl⟩
   have hdb:=dayN_bd (ZoneM.mk zo ZA zc zl).t tm
   rw [hday] at hdb ⊢
   have HDAY:=Lib.hid hday
   obtain ⟨d1,d2⟩:=hdb
   have HWF:=Lib.hid (show (Lit.int .i64 day).wf = true from wf64 (by omega) (by omega))
   have hwr2:wA.heap.size = wr.heap.size+1:=by rw [HWA.out]; simp
   have hbs4:=hb4.size
   have HSH4:=Lib.hid (HSH.out.adv hb4)
   have HBE4:=Lib.hid (HBE.out.trans (hb4.mono (by omega)))
   have hBX4:=hBX.adv hb4
   have HBZ4:=Lib.hid (hBZ.adv hb4)
   have hB4:=HSH4.out.blk
   have hbl4:=hB4.lt
   have hx4:=hBX4.lt
   have s0:=hB4.cell 0
   have s1:=hB4.cell 1
   have s2:=hB4.cell 2
   simp only [nqg,nqh,nqi] at s0 s1 s2
   have x0:=hBX4.cell 0
   have x1:=hBX4.cell 1
   simp only [nqg,nqh,nqi] at x0 x1
   clear hb4 hday zz0 zz1 hzl hBX hBZ HSH HBE c0 c1 HWA
   by_cases hin:a≤day∧day≤b
   ·
    obtain ⟨i1,i2⟩:=hin
    have hn1:¬ day < a:=by omega
    have hn2:¬ b < day:=by omega
    obtain ⟨hyT,hyA⟩:=HSH4.out.rowT day
    have HNO:Hid (rows2 day = none→(rowAt rows2 day).A = none∧(rowAt rows2 day).B = none):=fun e=>by unfold rowAt; rw [e]; exact ⟨rfl,rfl⟩
    have HYE:Hid (∀ z,rows2 day = some z→z = rowAt rows2 day):=fun z e=>by unfold rowAt; rw [e]; rfl
    have hyl:(rowAt rows2 day).an.length≤1000+k:=by
     rw [(rowAt_plain rows2 day).2,hPL.out day ⟨d1,d2⟩]
     have:=plusAn_len (z:=(ZoneM.mk zo ZA zc zl).t) (l:=l.take k) (a:=a) (b:=b) (HA0.out day ⟨d1,d2⟩)
     rw [List.length_take] at this
     omega
    obtain ⟨dd,hdd⟩ : ∃ dd:Int,((rows2 day).map aggRo).getD (.agg #[.int .i64 0,.slice none 0 0,.slice none 0 0]) = .agg #[.int .i64 dd,.slice (rowAt rows2 day).A (rowAt rows2 day).ti.length (rowAt rows2 day).c,.slice (rowAt rows2 day).B (rowAt rows2 day).an.length (rowAt rows2 day).e]:=by
     unfold rowAt
     cases hr:rows2 day with
     | none=>exact ⟨0,rfl⟩
     | some y=>exact ⟨y.d,rfl⟩
    have HDD:=Lib.hid hdd
    clear hdd
    obtain ⟨y,hy⟩ : ∃ y,rowAt rows2 day = y:=⟨_,rfl⟩
    have hnx0:=HNX.out day
    rw [hy] at hyT hyA HNO HYE HDD hyl hnx0
    have HY:=Lib.hid hy
    clear hy
    obtain ⟨yd,yA,yc,yt,yB,ye,ya⟩:=y
    replace hyl:ya.length≤1000+k:=hyl
    have HYT:Hid (Own encTm 2 64 w4 base (.slice yA yt.length yc) yt):=hyT
    have HYA:Hid (Own encAn 2 198 w4 base (.slice yB ya.length ye) ya):=hyA
    replace HDD:Hid (((rows2 day).map aggRo).getD (.agg #[.int .i64 0,.slice none 0 0,.slice none 0 0]) = .agg #[.int .i64 dd,.slice yA yt.length yc,.slice yB ya.length ye]):=HDD
    clear hyT hyA
    have hMA:=HSH4.out.map
    have HYA1:=Lib.hid (HYA.out.alloc (.cells #[.int .i64 day,.slice yA yt.length yc,.slice yB ya.length ye] 62))
    have hsz5:(w4.alloc (.cells #[.int .i64 day,.slice yA yt.length yc,.slice yB ya.length ye] 62)).heap.size = w4.heap.size+1:=by simp
    have HG0:=Lib.hid (show w4.grownBy (w4.alloc (.cells #[.int .i64 day,.slice yA yt.length yc,.slice yB ya.length ye] 62)) (Value.slice yB ya.length ye).ownBlock from only_alloc (only_refl _ _) _)
    have HBG:=Lib.hid (Blk.new w4 62 #[.int .i64 day,.slice yA yt.length yc,.slice yB ya.length ye])
    have hng:(Value.slice yB ya.length ye).ownBlock ≠ some w4.heap.size:=fun e=>by have:=(HYA.out.block_lt e).2; omega
    have hnb:(Value.slice yB ya.length ye).ownBlock ≠ some bs:=HYA.out.notBlk HSH4.out.blk (by decide)
    have hnx:(Value.slice yB ya.length ye).ownBlock ≠ some wr.heap.size:=fun e=>by have:=hnx0 _ e; omega
    have HBX4:=Lib.hid hBX4
    clear hBX4 hB4
    go_upto_region 9 with (first
     | (at_lookup; go_loud (refine wpList_get (E:=keyI) (f:=fun x=>(rows2 x).map aggRo) (by rfl) _ _ 106 (by rfl) Tryz.underlying106 _ (zeroRo _) hMA day HWF.out (by rfl) (by rfl) _ HDD.out ?_))
     | (at_builtin; go_loud (refine wpList_append_one_at _ _ 60 (⟨kd,tm⟩ : AnomT) _ 16 _ infoAn Tryz.underlying60 HYA1.out encAn_len (by omega) rfl (encAn_one _) (by omega) (by omega) (by omega) (by rfl) (by rfl) (by rfl) (by rfl) (by simp) (by rfl) ?_); intro v3 w3 hown3 hg3 halt3; obtain ⟨A3,c3,hv3⟩:=hown3.slice encAn_len; rw [List.length_append,List.length_singleton] at hv3; subst hv3; have hB3:=HBG.out.grown hg3 (fun e=>hng e.symm); have hbl3:=hB3.lt; have hfz3:=hB3.frozen 2; have q0:=hB3.cell 0; have q1:=hB3.cell 1; have q2:=hB3.cell 2; simp only [nqg,nqh,nqi] at q0 q1 q2; have HB3:=Lib.hid hB3; have HG3:=Lib.hid hg3; have HOWN3:=Lib.hid hown3; clear hB3 hg3 hown3))
    have hW:=only_setCell (only_refl w3 (some w4.heap.size)) (p:=⟨w4.heap.size,2,none⟩) (.inl rfl) (.slice A3 (ya.length+1) c3)
    have hB5:Blk (w3.setCell ⟨w4.heap.size,2,none⟩ (.slice A3 (ya.length+1) c3)) w4.heap.size 62 #[.int .i64 day,.slice yA yt.length yc,.slice A3 (ya.length+1) c3]:=HB3.out.set_ 2 _
    have hOg:(Value.slice A3 (ya.length+1) c3).ownBlock ≠ some w4.heap.size:=fun e=>by
     rcases halt3 with h | h
     ·
      rw [h] at e; exact hng e
     ·
      rw [h] at e; injection e with e; omega
    have hO5:=HOWN3.out.keptNe hW (fun q hq e=>hOg (by rw [hq,← e]))
    have hG5:w4.grownBy (w3.setCell ⟨w4.heap.size,2,none⟩ (.slice A3 (ya.length+1) c3)) (Value.slice yB ya.length ye).ownBlock:=only_then (only_trans HG0.out HG3.out) hW (fun g e=>by injection e; exact .inl (by omega))
    have hbs5:=HSH4.out.blk.grown hG5 (fun e=>hnb e.symm)
    have HBX5:=Lib.hid (HBX4.out.grown hG5 (fun e=>hnx e.symm))
    have HBZ5:=Lib.hid (HBZ4.out.grown hG5 (fun e=>HYA.out.notBlk HBZ4.out (by decide) e.symm))
    have halt5:(Value.slice A3 (ya.length+1) c3).ownBlock = (Value.slice yB ya.length ye).ownBlock ∨ ∃ q,w4.heap.size≤q∧(Value.slice A3 (ya.length+1) c3).ownBlock = some q:=by
     rcases halt3 with h | h
     ·
      exact .inl h
     ·
      exact .inr ⟨_,by omega,h⟩
    have hM5:=hMA.kept hG5 (fun e=>hMA.notOwn HYA.out e.symm)
    generalize w3.setCell ⟨w4.heap.size,2,none⟩ (.slice A3 (ya.length+1) c3) = w5 at hB5 hO5 hG5 hbs5 hM5 HBX5 HBZ5 ⊢
    have hl5:=hB5.lt
    have hlb5:=hbs5.lt
    have r0:=hB5.cell 0
    have r1:=hB5.cell 1
    have r2:=hB5.cell 2
    simp only [nqg,nqh,nqi] at r0 r1 r2
    clear s0 s1 s2 q0 q1 q2 hfz3 x0 x1
    have s0:=hbs5.cell 0
    have s1:=hbs5.cell 1
    have s2:=hbs5.cell 2
    simp only [nqg,nqh,nqi] at s0 s1 s2
    have HO5:=Lib.hid hO5
    have HG5:=Lib.hid hG5
    have HM5:=Lib.hid hM5
    have HAL5:=Lib.hid halt5
    clear hO5 hG5 hM5 halt5 halt3 hbs5 hB5 hW hMA
    refine wp_region_fin (aE:=?aEA) [0,1,2,3,4,5] 6 (by kernel_rfl) (by kernel_rfl) rfl (by kernel_rfl) (by rfl) (by kernel_rfl) (by kernel_rfl) rfl rfl rfl ?HA ?MA
    case HA =>
     intro F hF inst
     simp only [M3.opsAt,List.getElem?_toArray,List.getElem?_cons_zero,List.getElem?_cons_succ]
     have e2:=BwC.cellB (F:=F) (a:=⟨bs,2,none⟩) (by exact hlb5) s2
     have f0:=BwC.cellB (F:=F) (a:=⟨w4.heap.size,0,none⟩) (by exact hl5) r0
     have f1:=BwC.cellB (F:=F) (a:=⟨w4.heap.size,1,none⟩) (by exact hl5) r1
     have f2:=BwC.cellB (F:=F) (a:=⟨w4.heap.size,2,none⟩) (by exact hl5) r2
     repeat (first | go_big_quiet_step (first | fail) | quiet_step (first | fail))
     refine wpQuiet_nil ?_
     rfl
    case MA =>
     intro w6 hb6
     have hM6:=HM5.out.adv hb6
     obtain ⟨w7,hrun,hM7,hg7⟩:=hM6.update (g:=fun x=>if x = day then some (.agg #[.int .i64 day,.slice yA yt.length yc,.slice A3 (ya.length+1) c3]) else (rows2 x).map aggRo) Tryz.underlying106 (by unfold maxLen; omega) HWF.out (.agg #[.int .i64 day,.slice yA yt.length yc,.slice A3 (ya.length+1) c3]) (if_pos rfl) (fun x hx=>if_neg hx)
     have hrun:Sem.run Tryz.prog (Instr.mapUpdate 106 (.map (some gd)) (.int .i64 day) (.agg #[.int .i64 day,.slice yA yt.length yc,.slice A3 (ya.length+1) c3])) w6 = .ok () w7:=hrun
     refine ⟨w7,by go_simp,?_⟩
     have HO6:=Lib.hid (HO5.out.adv hb6)
     have HG6:=Lib.hid (only_adv HG5.out hb6)
     have HBZ6:=Lib.hid ((HBZ5.out.adv hb6).grown hg7 (fun e=>by injection e with e; exact HM5.out.notBlk HBZ5.out e))
     have HM7:=Lib.hid hM7
     have HG7:=Lib.hid hg7
     have HBE7:=Lib.hid ((HBE4.out.trans (only_below HG6.out (by omega) (fun g e=>(HYA.out.block_lt e).1))).trans (only_below hg7 (by have:=HG6.out.size; omega) (fun g e=>by injection e with e; have:=HH.out.lgd; omega)))
     clear hM6 hrun hM7 hg7 r0 r1 r2 s0 s1 s2 hb6
     have hlen1:(ya++[(⟨kd,tm⟩ : AnomT)]).length = ya.length+1:=by simp
     have hfun:(fun x=>(if x = day then some (⟨day,yA,yc,yt,A3,c3,ya++[(⟨kd,tm⟩ : AnomT)]⟩ : RowM) else rows2 x).map aggRo) = fun x=>if x = day then some (.agg #[.int .i64 day,.slice yA yt.length yc,.slice A3 (ya.length+1) c3]) else (rows2 x).map aggRo:=by
      funext x
      split
      ·
       simp [aggRo]
      ·
       rfl
     have HPUT:=Lib.hid (HSH4.out.putA (y:=⟨yd,yA,yc,yt,yB,ye,ya⟩) (t:=⟨kd,tm⟩) (A':=A3) (c':=c3) HYE.out HYT.out HYA.out HNO.out (by rw [hlen1]; exact HO6.out) HG6.out (by rw [hlen1]; exact HAL5.out) (by rw [hfun]; exact HM7.out) HG7.out ⟨i1,i2⟩)
     have HPN:Hid (∀ d,0≤d∧d≤84005→plainR (fun x=>if x = day then some (⟨day,yA,yc,yt,A3,c3,ya++[(⟨kd,tm⟩ : AnomT)]⟩ : RowM) else rows2 x) d = plusAn (ZoneM.mk zo ZA zc zl).t (l.take (k+1)) a b (plainR rows) d):=fun d hd=>by
      rw [HT.out,plusAn_snoc,← hPL.out d hd]
      show (if d = day then _ else rows2 d).map (fun y=>(y.ti,y.an)) = _
      by_cases e:d = day
      ·
       subst e
       rw [if_pos rfl,if_pos ⟨HDAY.out.symm,i1,i2⟩]
       have h1:=rowAt_plain rows2 d
       rw [HY.out] at h1
       rw [← h1.1,← h1.2]
       rfl
      ·
       rw [if_neg e,if_neg (fun hh=>e (by rw [hh.1]; exact HDAY.out))]
       rfl
     have hNk:N+k+1 = N+(k+1):=by omega
     rw [hNk] at HPUT
     clear hlen1 hfun
     go_wp2
     go_roundw
     case rel=>exact ⟨k+1,_,by omega,by go_num,HPUT.out,HPN,HBZ6.out,HBE7.out⟩
     case measure=>simp [intOf]; omega
   ·
    have HPN:Hid (∀ d,0≤d∧d≤84005→plainR rows2 d = plusAn (ZoneM.mk zo ZA zc zl).t (l.take (k+1)) a b (plainR rows) d):=fun d hd=>by
     rw [HT.out,plusAn_snoc,← hPL.out d hd,if_neg]
     rintro ⟨h1,h2⟩
     rw [show dayN (ZoneM.mk zo ZA zc zl).t tm = day from HDAY.out] at h1
     subst h1
     exact hin h2
    have HSH5:=Lib.hid (SheetAt.more HSH4.out (N':=N+(k+1)) (by omega))
    have hcase:day < a ∨ (¬ day < a∧b < day):=by omega
    rcases hcase with h1 | ⟨h1,h2⟩
    all_goals
     go_wp2
     go_roundw
     case rel=>exact ⟨k+1,rows2,by omega,by go_num,HSH5.out,HPN,HBZ4.out,HBE4.out⟩
     case measure=>simp [intOf]; omega
  ·
   obtain rfl:k = l.length:=by omega
   rw [List.take_length] at hPL
   have HBR:=Lib.hid hbr
   have HSH:=Lib.hid hsh
   clear hbr hsh hbz
   go_wp2
   go_end0
   exact ⟨rfl,HBR.out,rows2,_,HSH.out,Nat.le_refl _,hPL.out⟩
end
end Go.Proofs.YtopekilofdadnaaGreatDoor
namespace Go.Proofs.YtopekilofdadnaaGreatDoor
open Go.RowKit Go.Sort Go.Shelf
def evF (pcs:List PcT) (a b : Int) (d:Int) : Option (List TmT × List AnomT):=if d ∈ pcs.map (·.day)∧a≤d∧d≤b then some (totN pcs d,[]) else none
theorem totN_none {l:List PcT} {d:Int} (h:d ∉ l.map (·.day)) : totN l d = []:=by
 have key:∀ (l:List PcT) (t:List TmT),d ∉ l.map (·.day)→l.foldl (fun t p=>if p.day = d then putTm t p.band (p.iv.t - p.iv.f) else t) t = t:=by
  intro l
  induction l with
  | nil=>intro t _; rfl
  | cons p l ih =>
   intro t h
   rw [List.map_cons,List.mem_cons,not_or] at h
   rw [List.foldl_cons,if_neg (fun e=>h.1 e.symm)]
   exact ih t h.2
 exact key l [] h
theorem plus_some {z:ZoneT} {pcs:List PcT} {an:List AnomT} {a b d : Int} : ((plusAn z an a b (evF pcs a b) d).isSome = true ↔ d ∈ keysN z pcs an a b)∧∀ y,plusAn z an a b (evF pcs a b) d = some y→y = (totN pcs d,an.filter fun x=>decide (dayN z x.time = d)):=by
 have hk:d ∈ keysN z pcs an a b ↔ (d ∈ pcs.map (·.day) ∨ d ∈ an.map fun x=>dayN z x.time)∧a≤d∧d≤b:=by
  unfold keysN
  rw [uniC_mem cmpI_eq,List.mem_filter,List.mem_append]
  simp
 have ha:anomOf z an d ≠ [] ↔ d ∈ an.map fun x=>dayN z x.time:=by
  unfold anomOf
  rw [← List.length_pos_iff,List.length_pos_iff_exists_mem]
  constructor
  ·
   rintro ⟨x,hx⟩
   obtain ⟨h1,h2⟩:=List.mem_filter.1 hx
   exact List.mem_map.2 ⟨x,h1,by simpa using h2⟩
  ·
   intro h
   obtain ⟨x,h1,h2⟩:=List.mem_map.1 h
   exact ⟨x,List.mem_filter.2 ⟨h1,by simpa using h2⟩⟩
 rw [hk]
 unfold plusAn evF
 by_cases hab:a≤d∧d≤b
 ·
  by_cases hp:d ∈ pcs.map (·.day)
  ·
   by_cases hn:anomOf z an d = []
   ·
    have hn2:(an.filter fun x=>decide (dayN z x.time = d)) = []:=hn
    rw [if_neg (by simp [hn]),if_pos ⟨hp,hab⟩]
    refine ⟨⟨fun _=>⟨.inl hp,hab⟩,fun _=>rfl⟩,fun y hy=>?_⟩
    injection hy with hy
    rw [← hy,hn2]
   ·
    rw [if_pos ⟨hab.1,hab.2,hn⟩,if_pos ⟨hp,hab⟩]
    refine ⟨⟨fun _=>⟨.inl hp,hab⟩,fun _=>rfl⟩,fun y hy=>?_⟩
    injection hy with hy
    rw [← hy]
    rfl
  ·
   by_cases hn:anomOf z an d = []
   ·
    rw [if_neg (by simp [hn]),if_neg (fun h=>hp h.1)]
    refine ⟨⟨fun h=>(by cases h),fun h=>?_⟩,fun y hy=>by cases hy⟩
    rcases h.1 with h | h
    ·
     exact absurd h hp
    ·
     exact absurd hn (ha.2 h)
   ·
    rw [if_pos ⟨hab.1,hab.2,hn⟩,if_neg (fun h=>hp h.1)]
    refine ⟨⟨fun _=>⟨.inr (ha.1 hn),hab⟩,fun _=>rfl⟩,fun y hy=>?_⟩
    injection hy with hy
    rw [← hy,totN_none hp]
    rfl
 ·
  rw [if_neg (fun h=>hab ⟨h.1,h.2.1⟩),if_neg (fun h=>hab h.2)]
  exact ⟨⟨fun h=>(by cases h),fun h=>absurd h.2 hab⟩,fun y hy=>by cases hy⟩
theorem keys_res {rows:Int→Option RowM} {z:ZoneT} {pcs:List PcT} {an:List AnomT} {a b : Int} {ks:List Int} (hs:srtC cmpI ks) (hm : ∀ x,x ∈ ks ↔ ((Lit.int .i64 x).wf = true∧((rows x).map aggRo).isSome = true))
  (hr:∀ x y,rows x = some y→a≤x∧x≤b) (hday:∀ x y,rows x = some y→y.d = x) (ha:0≤a) (hb:b≤84005) (hp:∀ d,0≤d∧d≤84005→plainR rows d = plusAn z an a b (evF pcs a b) d) :
  ks = keysN z pcs an a b∧∀ x ∈ ks,∃ y,rows x = some y∧y.t = ⟨x,totN pcs x,an.filter fun q=>decide (dayN z q.time = x)⟩:=by
 have hsome:∀ x,(rows x).isSome = true→x ∈ keysN z pcs an a b:=fun x h=>by
  obtain ⟨y,hy⟩:=Option.isSome_iff_exists.1 h
  obtain ⟨h1,h2⟩:=hr x y hy
  rw [← plus_some.1,← hp x ⟨by omega,by omega⟩,plainR,hy]
  rfl
 constructor
 ·
  refine srtC_ext cmpI_tot hs (uniC_srt cmpI_tot cmpI_eq _) fun x=>?_
  show x ∈ ks ↔ x ∈ keysN z pcs an a b
  rw [hm x]
  constructor
  ·
   rintro ⟨_,h⟩
   exact hsome x (by simpa using h)
  ·
   intro h
   have h2:a≤x∧x≤b:=by
    unfold keysN at h
    rw [uniC_mem cmpI_eq,List.mem_filter] at h
    simpa using h.2
   have h3:=hp x ⟨by omega,by omega⟩
   rw [← plus_some.1,← h3,plainR] at h
   refine ⟨wf64 (by omega) (by omega),?_⟩
   simpa using h
 ·
  intro x hx
  have h:=((hm x).1 hx).2
  rw [Option.isSome_map] at h
  obtain ⟨y,hy⟩:=Option.isSome_iff_exists.1 h
  obtain ⟨h1,h2⟩:=hr x y hy
  refine ⟨y,hy,?_⟩
  have h3:=hp x ⟨by omega,by omega⟩
  rw [plainR,hy] at h3
  have h4:=plus_some.2 _ h3.symm
  have h5:y.ti = totN pcs x:=congrArg Prod.fst h4
  have h6:y.an = an.filter fun q=>decide (dayN z q.time = x):=congrArg Prod.snd h4
  show (⟨y.d,y.ti,y.an⟩ : DayT) = _
  rw [hday x y hy,h5,h6]
end Go.Proofs.YtopekilofdadnaaGreatDoor
namespace Go.Proofs.YtopekilofdadnaaGreatDoor
open Go.RowKit
structure RulM where
 z:ZoneM
 lo:Int
 ea:Int
 la:Int
 sn:Int
 b:BandsM
structure RulIn (w:World) (r:RulM) : Prop where
 z:r.z.In w
 zo:ZoneOk r.z.t
 b:BandsIn w r.b
 lo:1≤r.lo∧r.lo≤10080
 ea:0≤r.ea∧r.ea≤1440
 la:0≤r.la∧r.la≤1440
 sn:0≤r.sn∧r.sn≤120
theorem RulIn.adv {w w' : World} {r:RulM} (h:RulIn w r) (hb:Below w.heap.size w w') : RulIn w' r:=⟨h.z.adv hb,h.zo,h.b.adv hb,h.lo,h.ea,h.la,h.sn⟩
def rulV (zo:Int) (ZA:Option Addr) (zn zc : Nat) (lo ea la sn : Int) (bn:ByteArray) (bA:Option Addr) (bl bc : Nat) (bB:Option Addr) (bw bd : Nat) : Array Value :=
 #[.int .i64 zo,.slice ZA zn zc,.int .i64 lo,.int .i64 ea,.int .i64 la,.int .i64 0,.int .i64 0,.int .i64 sn,.slice none 0 0,.string bn,.slice bA bl bc,.slice bB bw bd,.slice none 0 0,.slice none 0 0]
def RulM.val (r:RulM) : Value:=.agg (rulV r.z.off r.z.A r.z.ch.length r.z.c r.lo r.ea r.la r.sn r.b.n r.b.A r.b.day.length r.b.c r.b.B r.b.week.length r.b.d)
def planOf (z:ZoneT) (plan:List ShiftT) (s:Int) : IvT:=if 0≤s then spOf z (plan.getD s.toNat ⟨0,0,0⟩) else ⟨0,0⟩
section
set_option maxHeartbeats 8000000
set_option maxRecDepth 100000
theorem spanQ (z:ZoneM) (s:ShiftT) (w:World) (hz:ZoneOk z.t) (hS:z.In w) (hs:ShiftOk s) (hb:begN z.t s+s.min≤120968640) : Calls Tryz.prog 9 #[z.val,.agg #[.int .i64 s.day,.int .i64 s.start,.int .i64 s.min]] w fun e w'=>e = .returned (.tuple #[.agg #[.int .i64 (begN z.t s),.int .i64 (begN z.t s+s.min)],.int .i64 0])∧Below w.heap.size w w' :=
 (spanE z s w hz hS hs).mono fun e w' ⟨h1,h2⟩=>by
  rcases h2 with ⟨h,_⟩ | ⟨_,h⟩
  ·
   omega
  ·
   exact ⟨h,h1⟩
theorem adjustT (r:RulM) (B:Option Addr) (d:Nat) (plan:List ShiftT) (x:DutyM) (w:World) (hr:RulIn w r) (hP:SliceOf encSf 3 w w.heap.size B plan) (hp : ∀ s ∈ plan,ShiftOk s∧begN r.z.t s+s.min≤120968640) (hs : -1≤x.s∧x.s < plan.length)
  (hx:DutyOk w x r.sn (planOf r.z.t plan x.s).f (planOf r.z.t plan x.s).t) :
  Calls Tryz.prog 55 #[r.val,.slice B plan.length d,.agg #[.int .i64 x.s,.int .i64 x.d,.slice x.A x.ps.length x.c]] w (AdjustPost x w):=by
 have HR:=Lib.hid hr
 have HP:=Lib.hid hp
 have HX:=Lib.hid hx
 obtain ⟨⟨zo,ZA,zc,zl⟩,lo,ea,la,sn,⟨bn,bA,bc,bl,bB,bd,bw⟩⟩:=r
 obtain ⟨xs,xd,xA,xc,xp⟩:=x
 obtain ⟨s1,s2⟩:=hs
 have s1 : -1≤xs:=s1
 have s2:xs < plan.length:=s2
 have HSN:Hid (0≤sn∧sn≤120):=hr.sn
 have HZO:Hid (ZoneOk (ZoneM.mk zo ZA zc zl).t):=hr.zo
 let Z0:Obj:=.cells (rulV zo ZA zl.length zc lo ea la sn bn bA bl.length bc bB bw.length bd) 52
 let Z1:Obj:=.cells #[.int .i64 xs,.int .i64 xd,.slice xA xp.length xc] 150
 let Z2:Obj:=.cells #[.int .i64 0,.slice none 0 0] 152
 let Z3:Obj:=.cells #[.int .i64 0,.int .i64 0] 34
 have hB0:=((Blk.new w 52 (rulV zo ZA zl.length zc lo ea la sn bn bA bl.length bc bB bw.length bd)).alloc Z1).alloc Z2 |>.alloc Z3
 have hB1:=(Blk.newAt (w:=w.alloc Z0) (g:=w.heap.size+1) 150 #[.int .i64 xs,.int .i64 xd,.slice xA xp.length xc] (by simp)).alloc Z2 |>.alloc Z3
 have hB2:=(Blk.newAt (w:=(w.alloc Z0).alloc Z1) (g:=w.heap.size+1+1) 152 #[.int .i64 0,.slice none 0 0] (by simp)).alloc Z3
 have hB3:=Blk.newAt (w:=((w.alloc Z0).alloc Z1).alloc Z2) (g:=w.heap.size+1+1+1) 34 #[.int .i64 0,.int .i64 0] (by simp)
 have hbel0:=bel_alloc (bel_alloc (bel_alloc (below_new w Z0) Z1) Z2) Z3
 clear hr hp hx
 show Calls Tryz.prog 55 #[.agg (rulV zo ZA zl.length zc lo ea la sn bn bA bl.length bc bB bw.length bd),.slice B plan.length d,.agg #[.int .i64 xs,.int .i64 xd,.slice xA xp.length xc]] w _
 simp only [Z0,Z1,Z2,Z3] at hB0 hB1 hB2 hB3 hbel0
 clear Z0 Z1 Z2 Z3
 simp only [rulV] at hB0 hB1 hB2 hB3 hbel0 ⊢
 go_enter Tryz.func55,Tryz.ntmps55
 go_upto_region 2 with fail
 generalize (((w.alloc (.cells #[.int .i64 zo,.slice ZA zl.length zc,.int .i64 lo,.int .i64 ea,.int .i64 la,.int .i64 0,.int .i64 0,.int .i64 sn,.slice none 0 0,.string bn,.slice bA bl.length bc,.slice bB bw.length bd,.slice none 0 0,.slice none 0 0] 52)).alloc (.cells #[.int .i64 xs,.int .i64 xd,.slice xA xp.length xc] 150)).alloc (.cells #[.int .i64 0,.slice none 0 0] 152)).alloc (.cells #[.int .i64 0,.int .i64 0] 34) = W at hB0 hB1 hB2 hB3 hbel0 ⊢
 have hl0:=hB0.lt
 have hl1:=hB1.lt
 have hl3:=hB3.lt
 have a0:=hB0.cell 0
 have a1:=hB0.cell 1
 have a2:=hB0.cell 2
 have a3:=hB0.cell 3
 have a4:=hB0.cell 4
 have a5:=hB0.cell 5
 have a6:=hB0.cell 6
 have a7:=hB0.cell 7
 have a8:=hB0.cell 8
 have a9:=hB0.cell 9
 have a10:=hB0.cell 10
 have a11:=hB0.cell 11
 have a12:=hB0.cell 12
 have a13:=hB0.cell 13
 simp only [nqg,nqh,nqi] at a0 a1 a2 a3 a4 a5 a6 a7 a8 a9 a10 a11 a12 a13
 have d0:=hB1.cell 0
 have d1:=hB1.cell 1
 have d2:=hB1.cell 2
 simp only [nqg,nqh,nqi] at d0 d1 d2
 have HZI:Hid ((ZoneM.mk zo ZA zc zl).In W):=HR.out.z.adv hbel0
 have HPW:=Lib.hid (hP.adv hbel0)
 have HB0:=Lib.hid hB0
 have HB1:=Lib.hid hB1
 have HB2:=Lib.hid hB2
 have HB3:=Lib.hid hB3
 have HBEL:=Lib.hid hbel0
 clear hB0 hB1 hB2 hB3 hbel0 hP
 go_cut [20] (fun v wx=>v = .bool (decide (0≤xs))∧wx = W)
 case first =>
  by_cases h0:0≤xs
  ·
   go_wp2
   go_meet
   exact ⟨by rw [decide_eq_true h0],rfl⟩
  ·
   have h0':decide (0≤xs) = false:=decide_eq_false h0
   go_wp2
   go_meet
   exact ⟨by rw [h0'],rfl⟩
 case rest =>
  obtain ⟨rfl,rfl⟩:=hcut
  go_upto_if 20 with fail
  go_cut [] (fun wx=>Blk wx (w.heap.size+1+1+1) 34 #[.int .i64 (planOf (ZoneM.mk zo ZA zc zl).t plan xs).f,.int .i64 (planOf (ZoneM.mk zo ZA zc zl).t plan xs).t]∧wc.grownBy wx (some (w.heap.size+1+1+1)))
  case first =>
   by_cases h0:0≤xs
   ·
    obtain ⟨j,rfl⟩ : ∃ j:Nat,xs = j:=⟨xs.toNat,by omega⟩
    have hjl:j < plan.length:=by omega
    have hjl2:(j:Int) < (plan.length:Int):=by omega
    obtain ⟨hso,hbe⟩:=HP.out _ (List.getElem_mem hjl)
    have HPL:Hid (planOf (ZoneM.mk zo ZA zc zl).t plan (j:Int) = spOf (ZoneM.mk zo ZA zc zl).t plan[j]):=by
     rw [Hid,planOf,if_pos h0,Int.toNat_natCast,List.getD_eq_getElem?_getD,List.getElem?_eq_getElem hjl]; rfl
    obtain ⟨qb,qoff,rfl,hqb,hqc⟩:=HPW.out.at_ hjl
    have r0:=hqc 0 _ rfl
    have r1:=hqc 1 _ rfl
    have r2:=hqc 2 _ rfl
    simp only [Nat.add_zero] at r0
    clear hqc
    generalize plan[j] = sh at r0 r1 r2 hso hbe HPL
    obtain ⟨sd,sa,sm⟩:=sh
    simp only at r0 r1 r2
    have HSO:=Lib.hid hso
    have HBE:=Lib.hid hbe
    have HSP:Hid (spOf (ZoneM.mk zo ZA zc zl).t ⟨sd,sa,sm⟩ = ⟨begN (ZoneM.mk zo ZA zc zl).t ⟨sd,sa,sm⟩,begN (ZoneM.mk zo ZA zc zl).t ⟨sd,sa,sm⟩+sm⟩):=rfl
    have hSQ:∀ W:World,RowKit.Below wc.heap.size wc W→Calls Tryz.prog 9 #[.agg #[.int .i64 zo,.slice ZA zl.length zc],.agg #[.int .i64 sd,.int .i64 sa,.int .i64 sm]] W fun e w'=>e = .returned (.tuple #[.agg #[.int .i64 (begN (ZoneM.mk zo ZA zc zl).t ⟨sd,sa,sm⟩),.int .i64 (begN (ZoneM.mk zo ZA zc zl).t ⟨sd,sa,sm⟩+sm)],.int .i64 0])∧RowKit.Below W.heap.size W w':=fun W hb=>spanQ ⟨zo,ZA,zc,zl⟩ ⟨sd,sa,sm⟩ W HZO.out (HZI.out.adv hb) HSO.out HBE.out
    generalize begN (ZoneM.mk zo ZA zc zl).t ⟨sd,sa,sm⟩ = bg at hSQ HSP
    have HSQ:=Lib.hid hSQ
    clear hso hbe hSQ
    go_upto_region 3 with fail
    refine wp_region_box1 (aE:=?aEA) (t:=34) (zs:=#[.int .i64 0,.int .i64 0]) [0,1,2,3,4,5,6,7,8,9,10] 11 12 13 #[.int .i64 bg,.int .i64 (bg+sm)] (.int .i64 0) (by kernel_rfl) (by kernel_rfl) rfl (by kernel_rfl) (by kernel_rfl) (by rfl) (by kernel_rfl) (by kernel_rfl) (by kernel_rfl) (by kernel_rfl) rfl rfl rfl rfl rfl rfl rfl rfl rfl rfl rfl (fun _ _=>by go_simp) rfl (by kernel_rfl) rfl ?HA ?EA ?MA
    case HA =>
     intro F hF inst
     simp only [M3.opsAt,List.getElem?_toArray,List.getElem?_cons_zero,List.getElem?_cons_succ]
     have e0:=BwC.cellB (F:=F) (a:=⟨w.heap.size,0,none⟩) (by exact hl0) a0
     have e1:=BwC.cellB (F:=F) (a:=⟨w.heap.size,1,none⟩) (by exact hl0) a1
     have f0:=BwC.cellB (F:=F) (a:=⟨w.heap.size+1,0,none⟩) (by exact hl1) d0
     have s0:=BwC.cellB (F:=F) (a:=⟨qb,qoff+j * 3,none⟩) (by exact hqb) r0
     have s1:=BwC.cellB (F:=F) (a:=⟨qb,qoff+j * 3+1,none⟩) (by exact hqb) r1
     have s2:=BwC.cellB (F:=F) (a:=⟨qb,qoff+j * 3+2,none⟩) (by exact hqb) r2
     repeat (first | go_big_quiet_step (first | (with_reducible exact BwC.call (stable_below _ _ (Nat.le_refl _)) hF _ (HSQ.out _ (BwC.h _)))) | quiet_step (first | (with_reducible exact BwC.call (stable_below _ _ (Nat.le_refl _)) hF _ (HSQ.out _ (BwC.h _)))))
     refine wpQuiet_nil ?_
     rfl
    case EA=>exact fun _=>⟨rfl,rfl,rfl⟩
    case MA =>
     intro g w2 hge hBV hb2
     try simp only [Act.put,List.setIfInBounds_toArray,List.set_cons_succ,List.set_cons_zero]
     have v0:=hBV.cell 0
     have v1:=hBV.cell 1
     simp only [nqg,nqh,nqi] at v0 v1
     have hg2:=hBV.lt
     have HB3':=Lib.hid (HB3.out.adv hb2)
     go_wp2_with (refine wpList_store_blk rfl _ _ _ rfl rfl (w.heap.size+1+1+1) (cs:=#[.int .i64 0,.int .i64 0]) (vs:=#[.int .i64 bg,.int .i64 (bg+sm)]) rfl rfl HB3'.out rfl (by kernel_rfl) rfl ?_; intro w9 hB9 hg9)
     go_meet
     exact ⟨by rw [HPL.out,HSP.out]; exact hB9,only_trans (only_of_below hb2 _) hg9⟩
   ·
    have h0':decide (0≤xs) = false:=decide_eq_false h0
    have HPL:Hid (planOf (ZoneM.mk zo ZA zc zl).t plan xs = ⟨0,0⟩):=by rw [Hid,planOf,if_neg h0]
    go_wp2
    go_meet
    exact ⟨by rw [HPL.out]; exact HB3.out,only_refl _ _⟩
  case rest =>
   clear a0 a1 a2 a3 a4 a5 a6 a7 a8 a9 a10 a11 a12 a13 d0 d1 d2 hl0 hl1 hl3
   obtain ⟨hB3,hgc⟩:=hcut
   have hE0:=HB0.out.grown hgc (fun e=>by injection e; omega)
   have hE1:=HB1.out.grown hgc (fun e=>by injection e; omega)
   have hE2:=HB2.out.grown hgc (fun e=>by injection e; omega)
   have hbel:=bel_only HBEL.out hgc (fun g e=>by injection e; omega)
   have hl0:=hE0.lt
   have hl1:=hE1.lt
   have hl3:=hB3.lt
   have a0:=hE0.cell 0
   have a1:=hE0.cell 1
   have a2:=hE0.cell 2
   have a3:=hE0.cell 3
   have a4:=hE0.cell 4
   have a5:=hE0.cell 5
   have a6:=hE0.cell 6
   have a7:=hE0.cell 7
   have a8:=hE0.cell 8
   have a9:=hE0.cell 9
   have a10:=hE0.cell 10
   have a11:=hE0.cell 11
   have a12:=hE0.cell 12
   have a13:=hE0.cell 13
   simp only [nqg,nqh,nqi] at a0 a1 a2 a3 a4 a5 a6 a7 a8 a9 a10 a11 a12 a13
   have d0:=hE1.cell 0
   have d1:=hE1.cell 1
   have d2:=hE1.cell 2
   simp only [nqg,nqh,nqi] at d0 d1 d2
   have p0:=hB3.cell 0
   have p1:=hB3.cell 1
   simp only [nqg,nqh,nqi] at p0 p1
   have HE2:=Lib.hid hE2
   have HBF:=Lib.hid hbel
   clear hE0 hE1 hE2 hB3 hgc hbel HB0 HB1 HB2 HB3 HBEL
   have hXO:=HX.out.adv HBF.out
   simp only at hXO
   generalize planOf (ZoneM.mk zo ZA zc zl).t plan xs = pl at p0 p1 hXO
   obtain ⟨pf,pt⟩:=pl
   simp only at p0 p1 hXO
   have HXO:=Lib.hid hXO
   clear hXO HX
   go_wp2_with fail
   refine (adjustAll ⟨xs,xd,xA,xc,xp⟩ sn pf pt _ HXO.out HSN.out).mono ?_
   rintro e w5 ⟨A5,c5,rfl,hS5,hwl,hA5,hb5⟩
   have HA5:Hid (∀ a,A5 = some a→a.block ≠ w.heap.size+1+1):=fun a ha e=>by
    have h1:=hA5 a ha
    have h2:=HE2.out.lt
    omega
   have HA6:Hid (∀ a,A5 = some a→w.heap.size≤a.block):=fun a ha=>by
    have h1:=hA5 a ha
    have h2:=HBF.out.size
    omega
   clear hA5
   have hF2:=HE2.out.adv hb5
   have hbF:=bel_adv HBF.out hb5
   have hg2:w.heap.size+1+1 < w5.heap.size:=hF2.lt
   have HF2:=Lib.hid hF2
   have HS5:=Lib.hid hS5
   have HBF5:=Lib.hid hbF
   clear a0 a1 a2 a3 a4 a5 a6 a7 a8 a9 a10 a11 a12 a13 d0 d1 d2 p0 p1 hF2 hS5 hbF hb5
   simp only
   go_wp2_with (refine wpList_store_blk rfl _ _ _ rfl rfl (w.heap.size+1+1) (cs:=#[.int .i64 0,.slice none 0 0]) (vs:=#[.int .i64 xd,.slice A5 (workN (xp.map PresM.p)).length c5]) rfl rfl HF2.out rfl (by kernel_rfl) rfl ?_; intro w9 hB9 hg9)
   have hS10:=HS5.out.advG hg9 HA5.out
   have hbelF:=bel_only HBF5.out hg9 (fun g e=>by injection e; omega)
   have q0:=hB9.cell 0
   have q1:=hB9.cell 1
   simp only [nqg,nqh,nqi] at q0 q1
   refine bodyPost_ret (v:=.tuple #[.agg #[.int .i64 xd,.slice A5 (workN (xp.map PresM.p)).length c5],.int .i64 0]) (by simp [results,Tryz.results55,go_sem,q0,q1]) rfl ⟨A5,c5,rfl,hS10,hwl,HA6.out,hbelF⟩
end
end Go.Proofs.YtopekilofdadnaaGreatDoor
namespace Go.Proofs.YtopekilofdadnaaGreatDoor
open Go.RowKit
section
set_option maxHeartbeats 8000000
set_option maxRecDepth 100000
theorem calValidX (w:World) : Calls Tryz.prog 102 #[.slice none 0 0] w fun e w'=>e = .returned (.int .i64 0)∧Below w.heap.size w w':=by
 go_enter Tryz.func102,Tryz.ntmps102
 go_wp2
 refine wp_loop_rounds 1 ?_
 rw [rounds_succ]
 go_wp2
 go_ret
 exact ⟨rfl,Below.refl _ _⟩
theorem premValidX (z:ZoneM) (w:World) (hz:ZoneOk z.t) (hS:z.In w) : Calls Tryz.prog 64 #[z.val,.slice none 0 0,.slice none 0 0] w fun e w'=>e = .returned (.int .i64 0)∧Below w.heap.size w w':=by
 obtain ⟨zo,A,c,l⟩:=z
 have HZ:=Lib.hid hz
 have hS1:=SliceOf.advA (show SliceOf encCh 2 w w.heap.size A l from hS) (.cells #[.int .i64 zo,.slice A l.length c] 27)
 have hb0:=below_new w (.cells #[.int .i64 zo,.slice A l.length c] 27)
 clear hz hS
 show Calls Tryz.prog 64 #[.agg #[.int .i64 zo,.slice A l.length c],.slice none 0 0,.slice none 0 0] w _
 go_enter Tryz.func64,Tryz.ntmps64
 go_wp2_with fail
 refine (zvalidC ⟨zo,A,c,l⟩ _ HZ.out hS1).mono ?_
 rintro e w1 ⟨rfl,hb1⟩
 have hbel:=bel_adv hb0 hb1
 go_wp2_with fail
 refine (calValidX _).mono ?_
 rintro e w2 ⟨rfl,hb2⟩
 have hbel2:=bel_adv hbel hb2
 go_wp2
 refine wp_loop_rounds 1 ?_
 rw [rounds_succ]
 go_wp2
 go_ret
 exact ⟨rfl,hbel2⟩
theorem tsValidX (r:RulM) (w:World) (hr:RulIn w r) : Calls Tryz.prog 53 #[r.val] w fun e w'=>e = .returned (.int .i64 0)∧Below w.heap.size w w':=by
 have HR:=Lib.hid hr
 obtain ⟨⟨zo,ZA,zc,zl⟩,lo,ea,la,sn,⟨bn,bA,bc,bl,bB,bd,bw⟩⟩:=r
 obtain ⟨l1,l2⟩ : 1≤lo∧lo≤10080:=hr.lo
 obtain ⟨e1,e2⟩ : 0≤ea∧ea≤1440:=hr.ea
 obtain ⟨f1,f2⟩ : 0≤la∧la≤1440:=hr.la
 have HSN:Hid (0≤sn∧sn≤120):=hr.sn
 have HZO:Hid (ZoneOk (ZoneM.mk zo ZA zc zl).t):=hr.zo
 have hB0:=Blk.new w 52 (rulV zo ZA zl.length zc lo ea la sn bn bA bl.length bc bB bw.length bd)
 have hbel0:=below_new w (.cells (rulV zo ZA zl.length zc lo ea la sn bn bA bl.length bc bB bw.length bd) 52)
 have hR0:=hr.adv hbel0
 have HR0:=Lib.hid hR0
 clear hr hR0
 show Calls Tryz.prog 53 #[.agg (rulV zo ZA zl.length zc lo ea la sn bn bA bl.length bc bB bw.length bd)] w _
 simp only [rulV] at hB0 hbel0 HR0 ⊢
 generalize hWW:w.alloc (.cells #[.int .i64 zo,.slice ZA zl.length zc,.int .i64 lo,.int .i64 ea,.int .i64 la,.int .i64 0,.int .i64 0,.int .i64 sn,.slice none 0 0,.string bn,.slice bA bl.length bc,.slice bB bw.length bd,.slice none 0 0,.slice none 0 0] 52) = W at hB0 hbel0 HR0
 have HWW:=Lib.hid hWW
 clear hWW
 go_enter Tryz.func53,Tryz.ntmps53
 go_wp2_with fail
 rw [HWW.out]
 refine (zvalidC ⟨zo,ZA,zc,zl⟩ _ HZO.out HR0.out.z).mono ?_
 rintro e w1 ⟨rfl,hb1⟩
 have hB1:=hB0.adv hb1
 have hR1:=HR0.out.adv hb1
 have HR1:=Lib.hid hR1
 have hbel1:=bel_adv hbel0 hb1
 have a0:=hB1.cell 0
 have a1:=hB1.cell 1
 have a2:=hB1.cell 2
 have a3:=hB1.cell 3
 have a4:=hB1.cell 4
 have a5:=hB1.cell 5
 have a6:=hB1.cell 6
 have a7:=hB1.cell 7
 have a8:=hB1.cell 8
 have a9:=hB1.cell 9
 have a10:=hB1.cell 10
 have a11:=hB1.cell 11
 have a12:=hB1.cell 12
 have a13:=hB1.cell 13
 simp only [nqg,nqh,nqi] at a0 a1 a2 a3 a4 a5 a6 a7 a8 a9 a10 a11 a12 a13
 clear hb1 hB0 hR1 HWW
 go_wp2_with fail
 refine (validW sn _ HSN.out).mono ?_
 rintro e w2 ⟨rfl,hb2⟩
 have hB2:=hB1.adv hb2
 have HR2:=Lib.hid (HR1.out.adv hb2)
 have hbel2:=bel_adv hbel1 hb2
 clear a0 a1 a2 a3 a4 a5 a6 a7 a8 a9 a10 a11 a12 a13 hb2 hB1
 have a0:=hB2.cell 0
 have a1:=hB2.cell 1
 have a2:=hB2.cell 2
 have a3:=hB2.cell 3
 have a4:=hB2.cell 4
 have a5:=hB2.cell 5
 have a6:=hB2.cell 6
 have a7:=hB2.cell 7
 have a8:=hB2.cell 8
 have a9:=hB2.cell 9
 have a10:=hB2.cell 10
 have a11:=hB2.cell 11
 have a12:=hB2.cell 12
 have a13:=hB2.cell 13
 simp only [nqg,nqh,nqi] at a0 a1 a2 a3 a4 a5 a6 a7 a8 a9 a10 a11 a12 a13
 go_wp2_with fail
 refine (validO ⟨bn,bA,bc,bl,bB,bd,bw⟩ _ HR2.out.b).mono ?_
 rintro e w3 ⟨rfl,hb3⟩
 have hB3:=hB2.adv hb3
 have HR3:=Lib.hid (HR2.out.adv hb3)
 have hbel3:=bel_adv hbel2 hb3
 clear a0 a1 a2 a3 a4 a5 a6 a7 a8 a9 a10 a11 a12 a13 hb3 hB2
 have a0:=hB3.cell 0
 have a1:=hB3.cell 1
 have a2:=hB3.cell 2
 have a3:=hB3.cell 3
 have a4:=hB3.cell 4
 have a5:=hB3.cell 5
 have a6:=hB3.cell 6
 have a7:=hB3.cell 7
 have a8:=hB3.cell 8
 have a9:=hB3.cell 9
 have a10:=hB3.cell 10
 have a11:=hB3.cell 11
 have a12:=hB3.cell 12
 have a13:=hB3.cell 13
 simp only [nqg,nqh,nqi] at a0 a1 a2 a3 a4 a5 a6 a7 a8 a9 a10 a11 a12 a13
 go_wp2_with fail
 refine (premValidX ⟨zo,ZA,zc,zl⟩ _ HZO.out HR3.out.z).mono ?_
 rintro e w4 ⟨rfl,hb4⟩
 go_wp2
 go_ret
 exact ⟨rfl,bel_adv hbel3 hb4⟩
end
end Go.Proofs.YtopekilofdadnaaGreatDoor
