/- Joined texts: Least33 Least33Proof. Conditions: as stated. -/
import Derived.Test.YtlhkojcmcmkmaaaGreatRows
import Derived.Test.YtlhkojcmcmkmaaaGreatJNetM
import Derived.Test.YtlhkojcmcmkmaaaGreatJEx33
import Derived.Test.YtlhkojcmcmkmaaaGreatJG33p
namespace Go.Proofs.YtlhkojcmcmkmaaaGreat
open Go.RowKit
set_option maxRecDepth 100000 in
set_option maxHeartbeats 8000000 in
theorem least33_walk (B A2 : Option Addr) (lcap cap2 : Nat) (l os : List Int) (w:World) (hI:SliceOf encI 1 w w.heap.size B l) (hIl:l.length≤9223372036854775807) (hIb : ∀ x ∈ l,I64 x) (hO:SliceOf encI 1 w w.heap.size A2 os) (hOl:os.length≤9223372036854775807) :
  Calls Tryz.prog 12 #[.slice B l.length lcap,.slice A2 os.length cap2] w fun e w'=>e = .returned (.bool true)∧Below w.heap.size w w':=by
 go_enter Tryz.func12,Tryz.ntmps12
 by_cases h20:20 < os.length
 ·
  have h20':(20:Int) < (os.length:Int):=by omega
  go_wp2_with fail
  refine (awake33_any _).mono ?_
  rintro e w1 ⟨rfl,hb1⟩
  go_wp2
  go_ret
  exact ⟨rfl,hb1⟩
 have h20':¬ (20:Int) < (os.length:Int):=by omega
 have h21:(os.length:Int)≤20:=by omega
 go_wp2_with fail
 refine (new_any B l lcap _ hI hIl hIb).mono ?_
 rintro e w0 ⟨rfl,hdk,hb0⟩
 clear hIb hI
 go_wp2_with fail
 refine (gross_any _ 0 _ (by omega) hdk).mono ?_
 rintro e w1 ⟨rm,rfl,hgr,hrf,hd1,hg1⟩
 go_wp2_with fail
 refine (year33_any _ (0+160) _ (by omega) hd1).mono ?_
 rintro e w2 ⟨k,ym,hk2,rfl,hyg,hyf,hd2,hg2⟩
 have hbl:=hdk.lt
 have hs1:=hg1.size
 have hs2:=hg2.size
 have hbw:Below w.heap.size w w2:=bel_only (bel_only hb0 hg1 (fun q e=>by injection e; omega)) hg2 (fun q e=>by injection e; omega)
 have hrf2:=hrf.grown hg2 (fun q e=>by injection e; omega)
 have H3:H33 w w2.heap.size (w2.heap.size+1) rm ym none ([] : List Elem) (0+160+61) ((w2.alloc (.cells #[.slice rm.Aw rm.ws.length rm.cw,.slice rm.As rm.ss.length rm.cs,.int .i64 rm.tm.t.method,.slice rm.tm.Ab rm.tm.t.brs.length rm.tm.cb,.int .i64 rm.tm.t.allowance,.int .i64 rm.tm.t.credit,.int .i64 rm.tm.t.unit,.int .i64 rm.tm.t.mode,.slice rm.tm.Ar rm.tm.t.rows.length rm.tm.cr,.int .i64 rm.count,.int .i64 rm.sh.fixed,.int .i64 rm.sh.dependent,.int .i64 rm.sh.lower,.int .i64 rm.sh.share,.int .i64 rm.sh.top,.int .i64 rm.recover] 45)).alloc (.cells #[.int .i64 ym.periods,.int .i64 ym.income,.int .i64 ym.withheld,.slice ym.Ai ym.ins.length ym.ci,.slice ym.At ym.taken.length ym.ct] 53)) :=
  H33.mk0 hrf2 hyf hd2 hbw (by omega) (by omega) (by omega)
 clear hdk hb0 hrf hd1 hg1 hyf hd2 hg2 hbw hrf2
 go_upto_region 5 with fail
 generalize (w2.alloc _).alloc _ = w3 at H3 ⊢
 generalize w2.heap.size+1 = g2 at *
 generalize w2.heap.size = g1 at *
 have z0:w3.cell? ⟨g1,0,none⟩ = some (.slice rm.Aw rm.ws.length rm.cw):=H3.R.cell 0
 have hwl:=hgr.ws.len
 go_wp2_with fail
 refine (elements_any _ (0+160+61) rm.Aw rm.ws rm.cw 2 w3 (by omega) (by omega) (by omega) H3.d H3.r.ws.sl (fun a ha=>by have:=H3.r.ws.fr a ha; omega) (by omega)).mono ?_
 rintro e w4 ⟨v4,es,rfl,heg,hel,hoe,hd4,hg4⟩
 have HP:Hid (G33 k rm ym es):=⟨hgr,hyg,hk2,heg,hel⟩
 obtain ⟨E,ec,rfl,hE4⟩:=hoe.fresh encE_len
 have H4:=(H3.deck hd4 hg4).els (hE4.weaken H3.sz)
 clear H3 z0 hgr hyg heg hel hoe hd4 hg4 hE4 hwl
 go_wp2_with fail
 refine (small_any _ _ _ (by omega) H4.d).mono ?_
 rintro e w5 ⟨t,rfl,t0,t1,hd5,hg5⟩
 have H5:=H4.deck hd5 hg5
 clear H4 hd5 hg5
 have hR5:=H5.R
 have hY5:=H5.Y
 go_wp2_with (first | (refine wpList_load_blk rfl _ _ rfl g1 rfl hR5 Tryz.underlying45 rfl (by kernel_rfl) ?_) | (refine wpList_load_blk rfl _ _ rfl g2 rfl hY5 Tryz.underlying53 rfl (by kernel_rfl) ?_))
 refine (H5.solve HP.out salary_size ec t).mono ?_
 rintro e w6 ⟨⟨a,ea,rfl,hsa⟩,hb6⟩
 have H6:=H5.adv hb6
 clear H5 hb6 hR5 hY5
 by_cases hea:ea = 0
 rotate_left
 ·
  have hea':(ea != 0) = true:=by simpa using hea
  obtain rfl:a = 0:=by
   rcases hsa with ⟨_,h,_⟩ | ⟨_,_,h,_⟩ | ⟨_,_,⟨h,_⟩ | ⟨_,h,_⟩⟩
   ·
    exact h
   ·
    exact h
   ·
    exact absurd h hea
   ·
    exact h
  go_wp2_with fail
  refine (awake33_any _).mono ?_
  rintro e w7 ⟨rfl,hb7⟩
  go_wp2
  go_ret
  exact ⟨rfl,bel_adv H6.bel hb7⟩
 subst hea
 obtain ⟨hw,a0,a1,hta,hlo⟩ : (∃ v,findW rm.ws cSalary = some v∧v.kind = 1)∧Least (fL rm.t ym.t es cSalary) t a:=by
  rcases hsa with ⟨_,_,h⟩ | ⟨_,_,_,h⟩ | ⟨h,_,⟨_,h2⟩ | ⟨h2,_⟩⟩
  ·
   cases h
  ·
   cases h
  ·
   exact ⟨h,h2⟩
  ·
   cases h2
 have HGR:=Lib.hid (HP.out.gr salary_size hw)
 have HLO:=Lib.hid hlo
 clear hsa hlo hw
 have hR6:=H6.R
 have hY6:=H6.Y
 go_wp2_with (first | (refine wpList_load_blk rfl _ _ rfl g1 rfl hR6 Tryz.underlying45 rfl (by kernel_rfl) ?_) | (refine wpList_load_blk rfl _ _ rfl g2 rfl hY6 Tryz.underlying53 rfl (by kernel_rfl) ?_))
 refine (H6.good HGR.out ec a0 a1).mono ?_
 rintro e w7 ⟨rfl,hb7⟩
 have H7:=H6.adv hb7
 clear H6 hb7 hR6 hY6
 generalize fL rm.t ym.t es cSalary a = fa at *
 go_wp2_with fail
 go_loopw [14] (fun i wr=>∃ k:Int,i = .int .i64 k∧1≤k∧k≤41∧H33 w g1 g2 rm ym E es (0+160+61+1+4 * 2+2) wr) (fun i _=>(41 - intOf i).toNat)
 case atStart=>exact ⟨1,rfl,by omega,by omega,H7⟩
 case round =>
  rename World=>wr
  obtain ⟨k,rfl,k0,k1,H8⟩:=hrel
  clear H7
  by_cases hk:k≤40∧k≤a
  ·
   obtain ⟨hk1,hk2'⟩:=hk
   have hR8:=H8.R
   have hY8:=H8.Y
   go_wp2_with (first | (refine wpList_load_blk rfl _ _ rfl g1 rfl hR8 Tryz.underlying45 rfl (by kernel_rfl) ?_) | (refine wpList_load_blk rfl _ _ rfl g2 rfl hY8 Tryz.underlying53 rfl (by kernel_rfl) ?_))
   refine (H8.good HGR.out ec (n:=a - k) (by omega) (by omega)).mono ?_
   rintro e w9 ⟨rfl,hb9⟩
   have H9:=H8.adv hb9
   have hf:=HLO.out (a - k) (by omega) (by omega)
   clear H8 hb9 hR8 hY8
   generalize fL rm.t ym.t es cSalary (a - k) = fk at *
   go_wp2
   go_roundw
   case rel=>exact ⟨k+1,by go_num,by omega,by omega,H9⟩
   case measure=>simp only [intOf]; omega
  ·
   have HX:=Lib.hid hk
   by_cases hk1:k≤40
   ·
    have hk2':¬ k≤a:=fun h=>HX.out ⟨hk1,h⟩
    clear hk
    go_wp2_with fail
    go_loopw [17] (fun i wx=>∃ j:Nat,i = .int .i64 j∧j≤os.length∧H33 w g1 g2 rm ym E es (0+160+61+1+4 * 2+2) wx) (fun i _=>os.length - (intOf i).toNat)
    case atStart=>exact ⟨0,rfl,by omega,H8⟩
    case round =>
     rename World=>wx
     obtain ⟨j,rfl,j0,H9⟩:=hrel
     clear H8
     by_cases hj:j < os.length
     ·
      have hji:(j:Int) < (os.length:Int):=by omega
      by_cases ha:0 < a
      ·
       obtain ⟨b,off,hA,hb,hc⟩:=(hO.adv H9.bel).at_ hj
       have c0:=hc 0 _ rfl
       simp only [Nat.add_zero] at c0
       simp only [Nat.mul_one] at c0
       rw [hA]
       go_upto_region 22 with fail
       obtain ⟨q,hq⟩ : ∃ q,q = os[j] % a:=⟨_,rfl⟩
       have q0:0≤q:=by rw [hq]; exact Int.emod_nonneg _ (by omega)
       have q1:q < a:=by rw [hq]; exact Int.emod_lt_of_pos _ (by omega)
       have HM:Hid (∀ W,Calls Tryz.prog 15 #[.int .i64 os[j],.int .i64 a] W fun e w'=>e = .returned (.int .i64 q)∧Below W.heap.size W w'):=fun W=>by
        rw [hq]
        exact (mod_any os[j] a W (by omega) (by omega)).mono fun e w' ⟨he,hw⟩=>⟨he,by rw [← hw]; exact Below.refl _ _⟩
       have hf:=HLO.out q q0 q1
       have hR9:=H9.R
       have hY9:=H9.Y
       clear hq hc
       generalize os[j] = oj at *
       generalize hfq:fL rm.t ym.t es cSalary q = fq at *
       have HFQ:=Lib.hid hfq
       clear hfq
       refine wp_region_call (aE:=?aE33) [0,1,2,3,4,5,6,7,8] [10,11,12,13,14] 9 36 #[.agg (rvM rm),.agg (yQv ym),.slice E es.length ec,.string cSalary,.int .i64 q] (fun _:Unit=>Value.tuple #[.int .i64 fq,.int .i64 0]) ?aJ33 (fun _ _=>True) (by kernel_rfl) (by kernel_rfl) rfl (by kernel_rfl) (by kernel_rfl) (by rfl) (by kernel_rfl) (by kernel_rfl) (by rfl) (by kernel_rfl) (by kernel_rfl) rfl rfl ?H33 ?S33 ?N33 ?R33 ?HC33 ?J33 ?M33
       case H33 =>
        intro F hF inst
        simp only [M3.opsAt,List.getElem?_toArray,List.getElem?_cons_zero,List.getElem?_cons_succ]
        have ec0:=BwC.cellB (F:=F) (a:=⟨b,off+j,none⟩) (by exact hb) c0
        have hq0:=BwC.blkq (g:=g1) (t:=45) (cs:=#[.slice rm.Aw rm.ws.length rm.cw,.slice rm.As rm.ss.length rm.cs,.int .i64 rm.tm.t.method,.slice rm.tm.Ab rm.tm.t.brs.length rm.tm.cb,.int .i64 rm.tm.t.allowance,.int .i64 rm.tm.t.credit,.int .i64 rm.tm.t.unit,.int .i64 rm.tm.t.mode,.slice rm.tm.Ar rm.tm.t.rows.length rm.tm.cr,.int .i64 rm.count,.int .i64 rm.sh.fixed,.int .i64 rm.sh.dependent,.int .i64 rm.sh.lower,.int .i64 rm.sh.share,.int .i64 rm.sh.top,.int .i64 rm.recover]) inst (fun w' hb=>Blk.adv hR9 hb)
        have hq1:=BwC.blkq (g:=g2) (t:=53) (cs:=#[.int .i64 ym.periods,.int .i64 ym.income,.int .i64 ym.withheld,.slice ym.Ai ym.ins.length ym.ci,.slice ym.At ym.taken.length ym.ct]) inst (fun w' hb=>Blk.adv hY9 hb)
        repeat (first | (refine quiet_load_blk _ _ g1 rfl rfl rfl hq0 Tryz.underlying45 rfl (by kernel_rfl) ?_; simp only [Act.put,nqd,nqe,nqf]) | (refine quiet_load_blk _ _ g2 rfl rfl rfl hq1 Tryz.underlying53 rfl (by kernel_rfl) ?_; simp only [Act.put,nqd,nqe,nqf]) | go_big_quiet_step (first | (with_reducible exact BwC.call (stable_below _ _ (Nat.le_refl _)) hF _ (HM.out _))) | quiet_step (first | (with_reducible exact BwC.call (stable_below _ _ (Nat.le_refl _)) hF _ (HM.out _))))
        refine wpQuiet_nil ?_
        rfl
       case S33=>rfl
       case N33=>exact fun _=>by first | rfl | (go_simp; done) | (go_simp; exact ⟨rfl,rfl,rfl⟩) | (go_simp; exact ⟨rfl,rfl⟩)
       case R33=>exact fun x w1 w2 hx hb=>hx
       case HC33=>exact fun W1 hb1=>((H9.adv hb1).good HGR.out ec q0 (by omega)).mono (fun e w2 ⟨he,hb⟩=>⟨(),by rw [he,HFQ.out],hb,trivial⟩)
       case J33 =>
        intro x F hF inst
        simp only [M3.opsAt,List.getElem?_toArray,List.getElem?_cons_zero,List.getElem?_cons_succ]
        repeat (first | go_big_quiet_step (fail) | quiet_step (fail))
        refine wpQuiet_nil ?_
        rfl
       case M33 =>
        intro x w10 hb10 _
        try simp only [Act.put,List.setIfInBounds_toArray,List.set_cons_succ,List.set_cons_zero]
        have H10:=H9.adv hb10
        clear H9 hb10 hR9 hY9 HM c0
        go_wp2
        go_roundw
        case rel=>exact ⟨j+1,by go_num,by omega,H10⟩
        case measure=>simp only [intOf]; omega
      ·
       go_wp2_with fail
       refine (awake33_any _).mono ?_
       rintro e w10 ⟨rfl,hb10⟩
       go_wp2
       go_ret
       exact ⟨rfl,bel_adv H9.bel hb10⟩
     ·
      obtain rfl:j = os.length:=by omega
      go_wp2_with fail
      refine (awake33_any _).mono ?_
      rintro e w10 ⟨rfl,hb10⟩
      go_wp2
      go_ret
      exact ⟨rfl,bel_adv H9.bel hb10⟩
   ·
    clear hk
    go_wp2_with fail
    go_loopw [17] (fun i wx=>∃ j:Nat,i = .int .i64 j∧j≤os.length∧H33 w g1 g2 rm ym E es (0+160+61+1+4 * 2+2) wx) (fun i _=>os.length - (intOf i).toNat)
    case atStart=>exact ⟨0,rfl,by omega,H8⟩
    case round =>
     rename World=>wx
     obtain ⟨j,rfl,j0,H9⟩:=hrel
     clear H8
     by_cases hj:j < os.length
     ·
      have hji:(j:Int) < (os.length:Int):=by omega
      by_cases ha:0 < a
      ·
       obtain ⟨b,off,hA,hb,hc⟩:=(hO.adv H9.bel).at_ hj
       have c0:=hc 0 _ rfl
       simp only [Nat.add_zero] at c0
       simp only [Nat.mul_one] at c0
       rw [hA]
       go_upto_region 22 with fail
       obtain ⟨q,hq⟩ : ∃ q,q = os[j] % a:=⟨_,rfl⟩
       have q0:0≤q:=by rw [hq]; exact Int.emod_nonneg _ (by omega)
       have q1:q < a:=by rw [hq]; exact Int.emod_lt_of_pos _ (by omega)
       have HM:Hid (∀ W,Calls Tryz.prog 15 #[.int .i64 os[j],.int .i64 a] W fun e w'=>e = .returned (.int .i64 q)∧Below W.heap.size W w'):=fun W=>by
        rw [hq]
        exact (mod_any os[j] a W (by omega) (by omega)).mono fun e w' ⟨he,hw⟩=>⟨he,by rw [← hw]; exact Below.refl _ _⟩
       have hf:=HLO.out q q0 q1
       have hR9:=H9.R
       have hY9:=H9.Y
       clear hq hc
       generalize os[j] = oj at *
       generalize hfq:fL rm.t ym.t es cSalary q = fq at *
       have HFQ:=Lib.hid hfq
       clear hfq
       refine wp_region_call (aE:=?aE34) [0,1,2,3,4,5,6,7,8] [10,11,12,13,14] 9 36 #[.agg (rvM rm),.agg (yQv ym),.slice E es.length ec,.string cSalary,.int .i64 q] (fun _:Unit=>Value.tuple #[.int .i64 fq,.int .i64 0]) ?aJ34 (fun _ _=>True) (by kernel_rfl) (by kernel_rfl) rfl (by kernel_rfl) (by kernel_rfl) (by rfl) (by kernel_rfl) (by kernel_rfl) (by rfl) (by kernel_rfl) (by kernel_rfl) rfl rfl ?H34 ?S34 ?N34 ?R34 ?HC34 ?J34 ?M34
       case H34 =>
        intro F hF inst
        simp only [M3.opsAt,List.getElem?_toArray,List.getElem?_cons_zero,List.getElem?_cons_succ]
        have ec0:=BwC.cellB (F:=F) (a:=⟨b,off+j,none⟩) (by exact hb) c0
        have hq0:=BwC.blkq (g:=g1) (t:=45) (cs:=#[.slice rm.Aw rm.ws.length rm.cw,.slice rm.As rm.ss.length rm.cs,.int .i64 rm.tm.t.method,.slice rm.tm.Ab rm.tm.t.brs.length rm.tm.cb,.int .i64 rm.tm.t.allowance,.int .i64 rm.tm.t.credit,.int .i64 rm.tm.t.unit,.int .i64 rm.tm.t.mode,.slice rm.tm.Ar rm.tm.t.rows.length rm.tm.cr,.int .i64 rm.count,.int .i64 rm.sh.fixed,.int .i64 rm.sh.dependent,.int .i64 rm.sh.lower,.int .i64 rm.sh.share,.int .i64 rm.sh.top,.int .i64 rm.recover]) inst (fun w' hb=>Blk.adv hR9 hb)
        have hq1:=BwC.blkq (g:=g2) (t:=53) (cs:=#[.int .i64 ym.periods,.int .i64 ym.income,.int .i64 ym.withheld,.slice ym.Ai ym.ins.length ym.ci,.slice ym.At ym.taken.length ym.ct]) inst (fun w' hb=>Blk.adv hY9 hb)
        repeat (first | (refine quiet_load_blk _ _ g1 rfl rfl rfl hq0 Tryz.underlying45 rfl (by kernel_rfl) ?_; simp only [Act.put,nqd,nqe,nqf]) | (refine quiet_load_blk _ _ g2 rfl rfl rfl hq1 Tryz.underlying53 rfl (by kernel_rfl) ?_; simp only [Act.put,nqd,nqe,nqf]) | go_big_quiet_step (first | (with_reducible exact BwC.call (stable_below _ _ (Nat.le_refl _)) hF _ (HM.out _))) | quiet_step (first | (with_reducible exact BwC.call (stable_below _ _ (Nat.le_refl _)) hF _ (HM.out _))))
        refine wpQuiet_nil ?_
        rfl
       case S34=>rfl
       case N34=>exact fun _=>by first | rfl | (go_simp; done) | (go_simp; exact ⟨rfl,rfl,rfl⟩) | (go_simp; exact ⟨rfl,rfl⟩)
       case R34=>exact fun x w1 w2 hx hb=>hx
       case HC34=>exact fun W1 hb1=>((H9.adv hb1).good HGR.out ec q0 (by omega)).mono (fun e w2 ⟨he,hb⟩=>⟨(),by rw [he,HFQ.out],hb,trivial⟩)
       case J34 =>
        intro x F hF inst
        simp only [M3.opsAt,List.getElem?_toArray,List.getElem?_cons_zero,List.getElem?_cons_succ]
        repeat (first | go_big_quiet_step (fail) | quiet_step (fail))
        refine wpQuiet_nil ?_
        rfl
       case M34 =>
        intro x w10 hb10 _
        try simp only [Act.put,List.setIfInBounds_toArray,List.set_cons_succ,List.set_cons_zero]
        have H10:=H9.adv hb10
        clear H9 hb10 hR9 hY9 HM c0
        go_wp2
        go_roundw
        case rel=>exact ⟨j+1,by go_num,by omega,H10⟩
        case measure=>simp only [intOf]; omega
      ·
       go_wp2_with fail
       refine (awake33_any _).mono ?_
       rintro e w10 ⟨rfl,hb10⟩
       go_wp2
       go_ret
       exact ⟨rfl,bel_adv H9.bel hb10⟩
     ·
      obtain rfl:j = os.length:=by omega
      go_wp2_with fail
      refine (awake33_any _).mono ?_
      rintro e w10 ⟨rfl,hb10⟩
      go_wp2
      go_ret
      exact ⟨rfl,bel_adv H9.bel hb10⟩
end Go.Proofs.YtlhkojcmcmkmaaaGreat
namespace Go.Proofs.YtlhkojcmcmkmaaaGreat.grossupLeast
open Go.ChangeShapes Go.WideShapes Go.ChangeAt Go.RowKit
open Go.ChangeMaps (open_string shut_string)
theorem own : ownKnob Tryz.prog.godebug = none:=by kernel_rfl
theorem laidOut : laidOutB Tryz.prog = true:=by kernel_rfl
set_option maxRecDepth 100000 in
theorem lifted (os:Os) (started:os.Started) (H:Type) (enc:TypeId × Value→H) :
  ReturnsInHanded {} Tryz.checked os 12 .any (Rows.grossupLeastSpec.pre6 enc Tryz.prog Tryz.f12 Rows.grossupLeastRow.domain false) (Rows.grossupLeastSpec.post enc Tryz.prog Tryz.f12 false true false false):=by
 refine returnsInHanded_of_change (C:=Tryz.checked) own started (by kernel_rfl) Tryz.func12
  (ChangeSpec.witness6 (enc:=enc) (C:=Tryz.checked) false ⟨#[],#[.slice none 0 0,.slice none 0 0],[]⟩ 8 (by kernel_rfl) (by kernel_rfl) (by kernel_rfl) (by kernel_rfl)) ?_
 intro W base args ds gs before hval0 hW _ _
 have hval:∀ (j:Nat) t v,Tryz.f12.params[j]? = some t→args[j]? = some v→Value.okWide Tryz.prog W .any base t v:=hval0
 have hW':=hW
 obtain ⟨p,q,hA0,hV,rfl,_,_⟩:=hW
 have hA:DataW.TrodAll enc Tryz.prog W 0 (fun _=>true) true Tryz.f12.params.toList args.toList ds p:=hA0
 rw [Tryz.params12] at hA hval
 obtain ⟨v0,vs0,d0,ds0,p0,q0,hargs,rfl,rfl,h0,r0⟩:=trodAll_cons hA
 obtain ⟨v1,vs1,d1,ds1,p1,q1,rfl,rfl,rfl,h1,r1⟩:=trodAll_cons r0
 obtain ⟨rfl,rfl,rfl⟩:=trodAll_nil r1
 obtain rfl:args = #[v0,v1]:=by cases args; simp_all
 obtain ⟨rfl,rfl⟩:=trodVars_none hV
 obtain ⟨a0,len0,cap0,rfl⟩:=okWide_slice Tryz.underlying34 (hval 0 34 v0 rfl rfl)
 have k0:=h0
 have lt0:∀ x ∈ p0,x.block < W.heap.size:=by obtain ⟨m,hm⟩:=k0; exact DataW.trod_lt m _ _ _ hm
 obtain ⟨xs0,rfl,hS0,hX0,hlc0,hcm0⟩:=openI h0
 have hl0:=Nat.le_trans hlc0 hcm0
 obtain ⟨a1,len1,cap1,rfl⟩:=okWide_slice Tryz.underlying34 (hval 1 34 v1 rfl rfl)
 have k1:=h1
 have lt1:∀ x ∈ p1,x.block < W.heap.size:=by obtain ⟨m,hm⟩:=k1; exact DataW.trod_lt m _ _ _ hm
 obtain ⟨xs1,rfl,hS1,hX1,hlc1,hcm1⟩:=openI h1
 have hl1:=Nat.le_trans hlc1 hcm1
 clear hA0 hval0
 refine (least33_walk a0 a1 cap0 cap1 xs0 xs1 W hS0 hl0 hX0 hS1 hl1).mono fun e W' ⟨he,bel⟩=>?_
 subst he
 exact ⟨_,rfl,_,_,_,[],_,[],hW',trodAll_mk1 (shut_bool Tryz.underlying4 _),(trodAll_cons_mk (Below.trod laidOut (by kernel_rfl) (of_decide_eq_true (by kernel_rfl)) k0 bel lt0) (trodAll_cons_mk (Below.trod laidOut (by kernel_rfl) (of_decide_eq_true (by kernel_rfl)) k1 bel lt1) trodAll_mk0)),rfl,bel.frame _,fun h=>by cases h⟩
theorem t4 : (Rows.grossupLeastRow.inPlace == Tryz.prog.inPlace 12) = true:=by kernel_rfl
theorem t5 : (Rows.grossupLeastRow.unfollowed == Tryz.prog.unfollowed 12) = true:=by kernel_rfl
theorem t6 : (Rows.grossupLeastRow.recurses == Tryz.prog.recurses 12) = true:=by kernel_rfl
theorem t7 : (Rows.grossupLeastRow.named == Tryz.prog.varsNamed 12) = true:=by kernel_rfl
theorem t8 : (Rows.grossupLeastRow.pinned == Rows.grossupLeastRow.pinnedBy) = true:=by kernel_rfl
theorem t9 : (Rows.grossupLeastRow.lifted == Tryz.prog.liftsFinal) = true:=by kernel_rfl
theorem tc : joinedFacts Tryz.prog 12 Tryz.f12 Rows.grossupLeastSpec Rows.grossupLeastRow = true:=by
 unfold joinedFacts
 rw [t4,t5,t6,t7,t8,t9]
 kernel_rfl
theorem tf : Tryz.pinned.checked.prog.funcNamed Rows.grossupLeastRow.func = some 12:=by kernel_rfl
theorem over : Rows.grossupLeastRow.holds Tryz.pinned (OpenSpec.ofChange Rows.grossupLeastSpec) :=
 OpenClaim.holds_of_wide 12 Tryz.f12 rfl rfl rfl rfl rfl rfl rfl ⟨rfl,rfl,rfl,rfl,rfl⟩ rfl rfl rfl rfl rfl tf Tryz.func12 tc
  (of_decide_eq_true (by kernel_rfl)) (by unfold Func.isWrapper; first | (rw [if_pos (by decide +kernel)]; kernel_rfl) | (rw [if_neg (by decide +kernel)]; exact ⟨rfl,rfl⟩))
  (fun os started H enc _=>lifted os started H enc)
theorem proved : Rows.GrossupLeastSaid:=over
#print axioms proved
end Go.Proofs.YtlhkojcmcmkmaaaGreat.grossupLeast
