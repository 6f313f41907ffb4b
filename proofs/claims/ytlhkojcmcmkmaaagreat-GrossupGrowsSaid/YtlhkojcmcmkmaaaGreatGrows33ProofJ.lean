/- Joined texts: Grows33 Grows33Proof. Conditions: as stated. -/
import Derived.Test.YtlhkojcmcmkmaaaGreatRows
import Derived.Test.YtlhkojcmcmkmaaaGreatJNetM
import Derived.Test.YtlhkojcmcmkmaaaGreatJEx33
import Derived.Test.YtlhkojcmcmkmaaaGreatJG33p
namespace Go.Proofs.YtlhkojcmcmkmaaaGreat
open Go.RowKit
theorem GenW.sal {ws:List WageT} (h:GenW 4 ws) {v:WageT} (hf:findW ws cSalary = some v) : v.kind = 1:=by
 obtain ⟨hm,hc⟩:=findW_mem hf
 exact (h.ok v hm).sal hc
set_option maxRecDepth 100000 in
set_option maxHeartbeats 8000000 in
theorem grows33_walk (B:Option Addr) (lcap:Nat) (l:List Int) (more:Int) (w:World) (hI:SliceOf encI 1 w w.heap.size B l) (hIl:l.length≤9223372036854775807) (hIb : ∀ x ∈ l,I64 x) :
  Calls Tryz.prog 13 #[.slice B l.length lcap,.int .i64 more] w fun e w'=>e = .returned (.bool true)∧Below w.heap.size w w':=by
 go_enter Tryz.func13,Tryz.ntmps13
 go_wp2_with fail
 refine (new_any B l lcap _ hI hIl hIb).mono ?_
 rintro e w0 ⟨rfl,hdk,hb0⟩
 clear hIb hI
 go_wp2_with fail
 refine (gross_any _ 0 _ (by omega) hdk).mono ?_
 rintro e w1 ⟨rm,rfl,hgr,hrf,hd1,hg1⟩
 go_wp2_with fail
 refine (year33_any _ (0+160) _ (by omega) hd1).mono ?_
 rintro e w2 ⟨k,ym,hk2,rfl,hyg,hyf,hd2,hg2⟩
 have hbl:=hdk.lt
 have hs1:=hg1.size
 have hs2:=hg2.size
 have hbw:Below w.heap.size w w2:=bel_only (bel_only hb0 hg1 (fun q e=>by injection e; omega)) hg2 (fun q e=>by injection e; omega)
 have hrf2:=hrf.grown hg2 (fun q e=>by injection e; omega)
 have H3:H33 w w2.heap.size (w2.heap.size+1) rm ym none ([] : List Elem) (0+160+61) ((w2.alloc (.cells #[.slice rm.Aw rm.ws.length rm.cw,.slice rm.As rm.ss.length rm.cs,.int .i64 rm.tm.t.method,.slice rm.tm.Ab rm.tm.t.brs.length rm.tm.cb,.int .i64 rm.tm.t.allowance,.int .i64 rm.tm.t.credit,.int .i64 rm.tm.t.unit,.int .i64 rm.tm.t.mode,.slice rm.tm.Ar rm.tm.t.rows.length rm.tm.cr,.int .i64 rm.count,.int .i64 rm.sh.fixed,.int .i64 rm.sh.dependent,.int .i64 rm.sh.lower,.int .i64 rm.sh.share,.int .i64 rm.sh.top,.int .i64 rm.recover] 45)).alloc (.cells #[.int .i64 ym.periods,.int .i64 ym.income,.int .i64 ym.withheld,.slice ym.Ai ym.ins.length ym.ci,.slice ym.At ym.taken.length ym.ct] 53)) :=
  H33.mk0 hrf2 hyf hd2 hbw (by omega) (by omega) (by omega)
 clear hdk hb0 hrf hd1 hg1 hyf hd2 hg2 hbw hrf2
 go_upto_region 3 with fail
 generalize (w2.alloc _).alloc _ = w3 at H3 ⊢
 generalize w2.heap.size+1 = g2 at *
 generalize w2.heap.size = g1 at *
 have z0:w3.cell? ⟨g1,0,none⟩ = some (.slice rm.Aw rm.ws.length rm.cw):=H3.R.cell 0
 have hwl:=hgr.ws.len
 go_wp2_with fail
 refine (elements_any _ (0+160+61) rm.Aw rm.ws rm.cw 2 w3 (by omega) (by omega) (by omega) H3.d H3.r.ws.sl (fun a ha=>by have:=H3.r.ws.fr a ha; omega) (by omega)).mono ?_
 rintro e w4 ⟨v4,es,rfl,heg,hel,hoe,hd4,hg4⟩
 have HP:Hid (G33 k rm ym es):=⟨hgr,hyg,hk2,heg,hel⟩
 obtain ⟨E,ec,rfl,hE4⟩:=hoe.fresh encE_len
 have H4:=(H3.deck hd4 hg4).els (hE4.weaken H3.sz)
 clear H3 z0 hgr hyg heg hel hoe hd4 hg4 hE4 hwl
 go_wp2_with fail
 refine (small_any _ _ _ (by omega) H4.d).mono ?_
 rintro e w5 ⟨t,rfl,t0,t1,hd5,hg5⟩
 have H5:=H4.deck hd5 hg5
 clear H4 hd5 hg5
 have hR5:=H5.R
 have hY5:=H5.Y
 go_wp2_with (first | (refine wpList_load_blk rfl _ _ rfl g1 rfl hR5 Tryz.underlying45 rfl (by kernel_rfl) ?_) | (refine wpList_load_blk rfl _ _ rfl g2 rfl hY5 Tryz.underlying53 rfl (by kernel_rfl) ?_))
 refine (H5.solve HP.out salary_size ec t).mono ?_
 rintro e w6 ⟨⟨a,ea,rfl,hsa⟩,hb6⟩
 have HSA:=Lib.hid hsa
 have H6:=H5.adv hb6
 clear H5 hb6 hsa hR5 hY5
 go_upto_region 6 with fail
 obtain ⟨q,hq⟩ : ∃ q,q = more % 100000:=⟨_,rfl⟩
 have q0:0≤q:=by rw [hq]; exact Int.emod_nonneg _ (by omega)
 have q1:q < 100000:=by rw [hq]; exact Int.emod_lt_of_pos _ (by omega)
 have HM:Hid (∀ W,Calls Tryz.prog 15 #[.int .i64 more,.int .i64 100000] W fun e w'=>e = .returned (.int .i64 q)∧Below W.heap.size W w'):=fun W=>by
  rw [hq]
  exact (mod_any more 100000 W (by omega) (by omega)).mono fun e w' ⟨he,hw⟩=>⟨he,by rw [← hw]; exact Below.refl _ _⟩
 have hwr:=wrap_in (n:=t+q) (by omega) (by omega)
 have hR6:=H6.R
 have hY6:=H6.Y
 clear hq
 refine wp_region_call (aE:=?aE33) [0,1,2,3,4,5,6] [8,9,10,11,12] 7 42 #[.agg (rvM rm),.agg (yQv ym),.slice E es.length ec,.string cSalary,.int .i64 (t+q)] (fun x:Int × Int=>Value.tuple #[.int .i64 x.1,.int .i64 x.2]) ?aJ33 (fun x _=>SolveS rm.t ym.t es cSalary (t+q) x.1 x.2) (by kernel_rfl) (by kernel_rfl) rfl (by kernel_rfl) (by kernel_rfl) (by rfl) (by kernel_rfl) (by kernel_rfl) (by rfl) (by kernel_rfl) (by kernel_rfl) rfl rfl ?H33 ?S33 ?N33 ?R33 ?HC33 ?J33 ?M33
 case H33 =>
  intro F hF inst
  simp only [M3.opsAt,List.getElem?_toArray,List.getElem?_cons_zero,List.getElem?_cons_succ]
  have hq0:=BwC.blkq (g:=g1) (t:=45) (cs:=#[.slice rm.Aw rm.ws.length rm.cw,.slice rm.As rm.ss.length rm.cs,.int .i64 rm.tm.t.method,.slice rm.tm.Ab rm.tm.t.brs.length rm.tm.cb,.int .i64 rm.tm.t.allowance,.int .i64 rm.tm.t.credit,.int .i64 rm.tm.t.unit,.int .i64 rm.tm.t.mode,.slice rm.tm.Ar rm.tm.t.rows.length rm.tm.cr,.int .i64 rm.count,.int .i64 rm.sh.fixed,.int .i64 rm.sh.dependent,.int .i64 rm.sh.lower,.int .i64 rm.sh.share,.int .i64 rm.sh.top,.int .i64 rm.recover]) inst (fun w' hb=>Blk.adv hR6 hb)
  have hq1:=BwC.blkq (g:=g2) (t:=53) (cs:=#[.int .i64 ym.periods,.int .i64 ym.income,.int .i64 ym.withheld,.slice ym.Ai ym.ins.length ym.ci,.slice ym.At ym.taken.length ym.ct]) inst (fun w' hb=>Blk.adv hY6 hb)
  repeat (first | (refine quiet_load_blk _ _ g1 rfl rfl rfl hq0 Tryz.underlying45 rfl (by kernel_rfl) ?_; simp only [Act.put,nqd,nqe,nqf]) | (refine quiet_load_blk _ _ g2 rfl rfl rfl hq1 Tryz.underlying53 rfl (by kernel_rfl) ?_; simp only [Act.put,nqd,nqe,nqf]) | go_big_quiet_step (first | (with_reducible exact BwC.call (stable_below _ _ (Nat.le_refl _)) hF _ (HM.out _))) | quiet_step (first | (with_reducible exact BwC.call (stable_below _ _ (Nat.le_refl _)) hF _ (HM.out _))))
  refine wpQuiet_nil ?_
  rfl
 case S33=>rfl
 case N33=>exact fun _=>by first | rfl | (go_simp; done) | (go_simp; exact ⟨rfl,rfl,rfl⟩) | (go_simp; exact ⟨rfl,rfl⟩)
 case R33=>exact fun x w1 w2 hx hb=>hx
 case HC33=>exact fun W1 hb1=>((H6.adv hb1).solve HP.out salary_size ec (t+q)).mono (fun e w2 ⟨⟨a,er,he,hs⟩,hb⟩=>⟨(a,er),he,hb,hs⟩)
 case J33 =>
  intro x F hF inst
  simp only [M3.opsAt,List.getElem?_toArray,List.getElem?_cons_zero,List.getElem?_cons_succ]
  repeat (first | go_big_quiet_step (fail) | quiet_step (fail))
  refine wpQuiet_nil ?_
  rfl
 case M33 =>
  intro x w7 hb7 hsb
  try simp only [Act.put,List.setIfInBounds_toArray,List.set_cons_succ,List.set_cons_zero]
  obtain ⟨b,eb⟩:=x
  simp only at hsb
  have H7:=H6.adv hb7
  have HSB:=Lib.hid hsb
  have HAB:Hid (ea = 0→eb = 0→a≤b):=by
   rintro rfl rfl
   rcases HSA.out with ⟨_,_,h⟩ | ⟨_,_,_,h⟩ | ⟨hv,_,hA⟩
   ·
    cases h
   ·
    cases h
   rcases hsb with ⟨_,_,h⟩ | ⟨_,_,_,h⟩ | ⟨_,_,hB⟩
   ·
    cases h
   ·
    cases h
   rcases hA with ⟨_,a0,a1,a2,a3⟩ | ⟨h,_⟩
   rotate_left
   ·
    cases h
   rcases hB with ⟨_,b0,b1,b2,b3⟩ | ⟨h,_⟩
   rotate_left
   ·
    cases h
   rcases Int.lt_or_le b a with h | h
   ·
    have:=a3 b b0 h
    omega
   ·
    exact h
  clear H6 hb7 hsb hR6 hY6 hwr HM
  by_cases hab:ea = 0∧eb = 0
  ·
   obtain ⟨rfl,rfl⟩:=hab
   have hle:=HAB.out rfl rfl
   clear HAB
   go_wp2_with fail
   refine (small_any _ _ _ (by omega) H7.d).mono ?_
   rintro e w8 ⟨n,rfl,n0,n1,hd8,hg8⟩
   have H8:=H7.deck hd8 hg8
   clear H7 hd8 hg8
   have hR8:=H8.R
   have hY8:=H8.Y
   go_wp2_with (first | (refine wpList_load_blk rfl _ _ rfl g1 rfl hR8 Tryz.underlying45 rfl (by kernel_rfl) ?_) | (refine wpList_load_blk rfl _ _ rfl g2 rfl hY8 Tryz.underlying53 rfl (by kernel_rfl) ?_))
   refine (H8.legal HP.out salary_size ec n).mono ?_
   rintro e w9 ⟨rfl,hb9⟩
   have H9:=H8.adv hb9
   clear H8 hb9 hR8 hY8
   obtain ⟨lg,hlg⟩ : ∃ lg,lg = lgO (inL rm.t ym.t es cSalary n):=⟨_,rfl⟩
   obtain ⟨er,her⟩ : ∃ er,er = (inL rm.t ym.t es cSalary n).err:=⟨_,rfl⟩
   rw [← hlg,← her]
   have HLG:=Lib.hid hlg
   have HER:=Lib.hid her
   clear hlg her
   by_cases her:er = 0
   rotate_left
   ·
    have her':(er != 0) = true:=by simpa using her
    go_wp2_with fail
    refine (awake33_any _).mono ?_
    rintro e w10 ⟨rfl,hb10⟩
    go_wp2
    go_ret
    exact ⟨rfl,bel_adv H9.bel hb10⟩
   subst her
   by_cases hp:lg < 0
   ·
    go_wp2_with fail
    refine (awake33_any _).mono ?_
    rintro e w10 ⟨rfl,hb10⟩
    go_wp2
    go_ret
    exact ⟨rfl,bel_adv H9.bel hb10⟩
   by_cases hp2:1000000000 < lg
   ·
    go_wp2_with fail
    refine (awake33_any _).mono ?_
    rintro e w10 ⟨rfl,hb10⟩
    go_wp2
    go_ret
    exact ⟨rfl,bel_adv H9.bel hb10⟩
   have hR9:=H9.R
   have hY9:=H9.Y
   go_wp2_with (first | (refine wpList_load_blk rfl _ _ rfl g1 rfl hR9 Tryz.underlying45 rfl (by kernel_rfl) ?_) | (refine wpList_load_blk rfl _ _ rfl g2 rfl hY9 Tryz.underlying53 rfl (by kernel_rfl) ?_))
   refine (H9.solve HP.out salary_size ec lg).mono ?_
   rintro e w10 ⟨⟨d,ed,rfl,hsd⟩,hb10⟩
   have H10:=H9.adv hb10
   have HSD:=Lib.hid hsd
   clear H9 hb10 hR9 hY9 hsd
   have z0:w10.cell? ⟨g1,0,none⟩ = some (.slice rm.Aw rm.ws.length rm.cw):=H10.R.cell 0
   go_wp2_with fail
   refine (find33_any rm.Aw rm.cw rm.ws cSalary w10 H10.r.ws.sl (by have:=HP.out.r.ws.len; omega)).mono ?_
   rintro e w11 ⟨rfl,hb11⟩
   have H11:=H10.adv hb11
   clear H10 hb11 z0
   rcases hf:findW rm.ws cSalary with _ | ⟨vc,vk,vt,vi,va,vn⟩
   ·
    have hed:ed = 9:=by
     rcases HSD.out with ⟨_,_,h⟩ | ⟨⟨v,h,_⟩,_⟩ | ⟨⟨v,h,_⟩,_⟩
     ·
      exact h
     ·
      rw [show rm.t.wages = rm.ws from rfl,hf] at h; cases h
     ·
      rw [show rm.t.wages = rm.ws from rfl,hf] at h; cases h
    subst hed
    rw [show foundV none = .tuple #[.agg #[.string ⟨#[]⟩,.int .i64 0,.bool false,.bool false,.bool false,.int .i64 0],.bool false] from rfl]
    have hbw12:=bel_alloc H11.bel (.cells #[.string ⟨#[]⟩,.int .i64 0,.bool false,.bool false,.bool false,.int .i64 0] 77)
    clear hf H11
    go_wp2_with fail
    refine (awake33_any _).mono ?_
    rintro e w13 ⟨rfl,hb13⟩
    go_wp2
    go_ret
    exact ⟨rfl,bel_adv hbw12 hb13⟩
   ·
    have hkd:=HP.out.r.ws.sal hf
    have hw:∃ v,findW rm.ws cSalary = some v∧v.kind = 1:=⟨_,hf,hkd⟩
    have hgr:=HP.out.gr salary_size hw
    have hlf:lg = fL rm.t ym.t es cSalary n:=by
     rw [HLG.out,lgO,if_pos HER.out.symm]; rfl
    have hed:ed = 0∧d≤n:=by
     rcases HSD.out with ⟨h,_⟩ | ⟨_,h,_⟩ | ⟨_,_,⟨rfl,d0,d1,d2,d3⟩ | ⟨_,_,h⟩⟩
     ·
      exact absurd hw h
     ·
      omega
     ·
      refine ⟨rfl,?_⟩
      rcases Int.lt_or_le n d with h | h
      ·
       have:=d3 n n0 h
       omega
      ·
       exact h
     ·
      have:=h n n0 (by omega)
      omega
    obtain ⟨rfl,hdn⟩:=hed
    rw [show foundV (some ⟨vc,vk,vt,vi,va,vn⟩) = .tuple #[.agg #[.string vc,.int .i64 vk,.bool vt,.bool vi,.bool va,.int .i64 vn],.bool true] from rfl]
    have hbw12:=bel_alloc H11.bel (.cells #[.string vc,.int .i64 vk,.bool vt,.bool vi,.bool va,.int .i64 vn] 77)
    clear hf H11 hkd hw hgr hlf
    go_wp2_with fail
    refine (awake33_any _).mono ?_
    rintro e w13 ⟨rfl,hb13⟩
    go_wp2
    go_ret
    exact ⟨rfl,bel_adv hbw12 hb13⟩
  ·
   by_cases hea:ea = 0
   ·
    have heb:(eb == 0) = false:=by simpa [hea] using hab
    subst hea
    clear HAB hab
    go_wp2_with fail
    refine (small_any _ _ _ (by omega) H7.d).mono ?_
    rintro e w8 ⟨n,rfl,n0,n1,hd8,hg8⟩
    have H8:=H7.deck hd8 hg8
    clear H7 hd8 hg8
    have hR8:=H8.R
    have hY8:=H8.Y
    go_wp2_with (first | (refine wpList_load_blk rfl _ _ rfl g1 rfl hR8 Tryz.underlying45 rfl (by kernel_rfl) ?_) | (refine wpList_load_blk rfl _ _ rfl g2 rfl hY8 Tryz.underlying53 rfl (by kernel_rfl) ?_))
    refine (H8.legal HP.out salary_size ec n).mono ?_
    rintro e w9 ⟨rfl,hb9⟩
    have H9:=H8.adv hb9
    clear H8 hb9 hR8 hY8
    obtain ⟨lg,hlg⟩ : ∃ lg,lg = lgO (inL rm.t ym.t es cSalary n):=⟨_,rfl⟩
    obtain ⟨er,her⟩ : ∃ er,er = (inL rm.t ym.t es cSalary n).err:=⟨_,rfl⟩
    rw [← hlg,← her]
    have HLG:=Lib.hid hlg
    have HER:=Lib.hid her
    clear hlg her
    by_cases her:er = 0
    rotate_left
    ·
     have her':(er != 0) = true:=by simpa using her
     go_wp2_with fail
     refine (awake33_any _).mono ?_
     rintro e w10 ⟨rfl,hb10⟩
     go_wp2
     go_ret
     exact ⟨rfl,bel_adv H9.bel hb10⟩
    subst her
    by_cases hp:lg < 0
    ·
     go_wp2_with fail
     refine (awake33_any _).mono ?_
     rintro e w10 ⟨rfl,hb10⟩
     go_wp2
     go_ret
     exact ⟨rfl,bel_adv H9.bel hb10⟩
    by_cases hp2:1000000000 < lg
    ·
     go_wp2_with fail
     refine (awake33_any _).mono ?_
     rintro e w10 ⟨rfl,hb10⟩
     go_wp2
     go_ret
     exact ⟨rfl,bel_adv H9.bel hb10⟩
    have hR9:=H9.R
    have hY9:=H9.Y
    go_wp2_with (first | (refine wpList_load_blk rfl _ _ rfl g1 rfl hR9 Tryz.underlying45 rfl (by kernel_rfl) ?_) | (refine wpList_load_blk rfl _ _ rfl g2 rfl hY9 Tryz.underlying53 rfl (by kernel_rfl) ?_))
    refine (H9.solve HP.out salary_size ec lg).mono ?_
    rintro e w10 ⟨⟨d,ed,rfl,hsd⟩,hb10⟩
    have H10:=H9.adv hb10
    have HSD:=Lib.hid hsd
    clear H9 hb10 hR9 hY9 hsd
    have z0:w10.cell? ⟨g1,0,none⟩ = some (.slice rm.Aw rm.ws.length rm.cw):=H10.R.cell 0
    go_wp2_with fail
    refine (find33_any rm.Aw rm.cw rm.ws cSalary w10 H10.r.ws.sl (by have:=HP.out.r.ws.len; omega)).mono ?_
    rintro e w11 ⟨rfl,hb11⟩
    have H11:=H10.adv hb11
    clear H10 hb11 z0
    rcases hf:findW rm.ws cSalary with _ | ⟨vc,vk,vt,vi,va,vn⟩
    ·
     have hed:ed = 9:=by
      rcases HSD.out with ⟨_,_,h⟩ | ⟨⟨v,h,_⟩,_⟩ | ⟨⟨v,h,_⟩,_⟩
      ·
       exact h
      ·
       rw [show rm.t.wages = rm.ws from rfl,hf] at h; cases h
      ·
       rw [show rm.t.wages = rm.ws from rfl,hf] at h; cases h
     subst hed
     rw [show foundV none = .tuple #[.agg #[.string ⟨#[]⟩,.int .i64 0,.bool false,.bool false,.bool false,.int .i64 0],.bool false] from rfl]
     have hbw12:=bel_alloc H11.bel (.cells #[.string ⟨#[]⟩,.int .i64 0,.bool false,.bool false,.bool false,.int .i64 0] 77)
     clear hf H11
     go_wp2_with fail
     refine (awake33_any _).mono ?_
     rintro e w13 ⟨rfl,hb13⟩
     go_wp2
     go_ret
     exact ⟨rfl,bel_adv hbw12 hb13⟩
    ·
     have hkd:=HP.out.r.ws.sal hf
     have hw:∃ v,findW rm.ws cSalary = some v∧v.kind = 1:=⟨_,hf,hkd⟩
     have hgr:=HP.out.gr salary_size hw
     have hlf:lg = fL rm.t ym.t es cSalary n:=by
      rw [HLG.out,lgO,if_pos HER.out.symm]; rfl
     have hed:ed = 0∧d≤n:=by
      rcases HSD.out with ⟨h,_⟩ | ⟨_,h,_⟩ | ⟨_,_,⟨rfl,d0,d1,d2,d3⟩ | ⟨_,_,h⟩⟩
      ·
       exact absurd hw h
      ·
       omega
      ·
       refine ⟨rfl,?_⟩
       rcases Int.lt_or_le n d with h | h
       ·
        have:=d3 n n0 h
        omega
       ·
        exact h
      ·
       have:=h n n0 (by omega)
       omega
     obtain ⟨rfl,hdn⟩:=hed
     rw [show foundV (some ⟨vc,vk,vt,vi,va,vn⟩) = .tuple #[.agg #[.string vc,.int .i64 vk,.bool vt,.bool vi,.bool va,.int .i64 vn],.bool true] from rfl]
     have hbw12:=bel_alloc H11.bel (.cells #[.string vc,.int .i64 vk,.bool vt,.bool vi,.bool va,.int .i64 vn] 77)
     clear hf H11 hkd hw hgr hlf
     go_wp2_with fail
     refine (awake33_any _).mono ?_
     rintro e w13 ⟨rfl,hb13⟩
     go_wp2
     go_ret
     exact ⟨rfl,bel_adv hbw12 hb13⟩
   ·
    have hea':(ea == 0) = false:=by simpa using hea
    clear HAB hab hea
    go_wp2_with fail
    refine (small_any _ _ _ (by omega) H7.d).mono ?_
    rintro e w8 ⟨n,rfl,n0,n1,hd8,hg8⟩
    have H8:=H7.deck hd8 hg8
    clear H7 hd8 hg8
    have hR8:=H8.R
    have hY8:=H8.Y
    go_wp2_with (first | (refine wpList_load_blk rfl _ _ rfl g1 rfl hR8 Tryz.underlying45 rfl (by kernel_rfl) ?_) | (refine wpList_load_blk rfl _ _ rfl g2 rfl hY8 Tryz.underlying53 rfl (by kernel_rfl) ?_))
    refine (H8.legal HP.out salary_size ec n).mono ?_
    rintro e w9 ⟨rfl,hb9⟩
    have H9:=H8.adv hb9
    clear H8 hb9 hR8 hY8
    obtain ⟨lg,hlg⟩ : ∃ lg,lg = lgO (inL rm.t ym.t es cSalary n):=⟨_,rfl⟩
    obtain ⟨er,her⟩ : ∃ er,er = (inL rm.t ym.t es cSalary n).err:=⟨_,rfl⟩
    rw [← hlg,← her]
    have HLG:=Lib.hid hlg
    have HER:=Lib.hid her
    clear hlg her
    by_cases her:er = 0
    rotate_left
    ·
     have her':(er != 0) = true:=by simpa using her
     go_wp2_with fail
     refine (awake33_any _).mono ?_
     rintro e w10 ⟨rfl,hb10⟩
     go_wp2
     go_ret
     exact ⟨rfl,bel_adv H9.bel hb10⟩
    subst her
    by_cases hp:lg < 0
    ·
     go_wp2_with fail
     refine (awake33_any _).mono ?_
     rintro e w10 ⟨rfl,hb10⟩
     go_wp2
     go_ret
     exact ⟨rfl,bel_adv H9.bel hb10⟩
    by_cases hp2:1000000000 < lg
    ·
     go_wp2_with fail
     refine (awake33_any _).mono ?_
     rintro e w10 ⟨rfl,hb10⟩
     go_wp2
     go_ret
     exact ⟨rfl,bel_adv H9.bel hb10⟩
    have hR9:=H9.R
    have hY9:=H9.Y
    go_wp2_with (first | (refine wpList_load_blk rfl _ _ rfl g1 rfl hR9 Tryz.underlying45 rfl (by kernel_rfl) ?_) | (refine wpList_load_blk rfl _ _ rfl g2 rfl hY9 Tryz.underlying53 rfl (by kernel_rfl) ?_))
    refine (H9.solve HP.out salary_size ec lg).mono ?_
    rintro e w10 ⟨⟨d,ed,rfl,hsd⟩,hb10⟩
    have H10:=H9.adv hb10
    have HSD:=Lib.hid hsd
    clear H9 hb10 hR9 hY9 hsd
    have z0:w10.cell? ⟨g1,0,none⟩ = some (.slice rm.Aw rm.ws.length rm.cw):=H10.R.cell 0
    go_wp2_with fail
    refine (find33_any rm.Aw rm.cw rm.ws cSalary w10 H10.r.ws.sl (by have:=HP.out.r.ws.len; omega)).mono ?_
    rintro e w11 ⟨rfl,hb11⟩
    have H11:=H10.adv hb11
    clear H10 hb11 z0
    rcases hf:findW rm.ws cSalary with _ | ⟨vc,vk,vt,vi,va,vn⟩
    ·
     have hed:ed = 9:=by
      rcases HSD.out with ⟨_,_,h⟩ | ⟨⟨v,h,_⟩,_⟩ | ⟨⟨v,h,_⟩,_⟩
      ·
       exact h
      ·
       rw [show rm.t.wages = rm.ws from rfl,hf] at h; cases h
      ·
       rw [show rm.t.wages = rm.ws from rfl,hf] at h; cases h
     subst hed
     rw [show foundV none = .tuple #[.agg #[.string ⟨#[]⟩,.int .i64 0,.bool false,.bool false,.bool false,.int .i64 0],.bool false] from rfl]
     have hbw12:=bel_alloc H11.bel (.cells #[.string ⟨#[]⟩,.int .i64 0,.bool false,.bool false,.bool false,.int .i64 0] 77)
     clear hf H11
     go_wp2_with fail
     refine (awake33_any _).mono ?_
     rintro e w13 ⟨rfl,hb13⟩
     go_wp2
     go_ret
     exact ⟨rfl,bel_adv hbw12 hb13⟩
    ·
     have hkd:=HP.out.r.ws.sal hf
     have hw:∃ v,findW rm.ws cSalary = some v∧v.kind = 1:=⟨_,hf,hkd⟩
     have hgr:=HP.out.gr salary_size hw
     have hlf:lg = fL rm.t ym.t es cSalary n:=by
      rw [HLG.out,lgO,if_pos HER.out.symm]; rfl
     have hed:ed = 0∧d≤n:=by
      rcases HSD.out with ⟨h,_⟩ | ⟨_,h,_⟩ | ⟨_,_,⟨rfl,d0,d1,d2,d3⟩ | ⟨_,_,h⟩⟩
      ·
       exact absurd hw h
      ·
       omega
      ·
       refine ⟨rfl,?_⟩
       rcases Int.lt_or_le n d with h | h
       ·
        have:=d3 n n0 h
        omega
       ·
        exact h
      ·
       have:=h n n0 (by omega)
       omega
     obtain ⟨rfl,hdn⟩:=hed
     rw [show foundV (some ⟨vc,vk,vt,vi,va,vn⟩) = .tuple #[.agg #[.string vc,.int .i64 vk,.bool vt,.bool vi,.bool va,.int .i64 vn],.bool true] from rfl]
     have hbw12:=bel_alloc H11.bel (.cells #[.string vc,.int .i64 vk,.bool vt,.bool vi,.bool va,.int .i64 vn] 77)
     clear hf H11 hkd hw hgr hlf
     go_wp2_with fail
     refine (awake33_any _).mono ?_
     rintro e w13 ⟨rfl,hb13⟩
     go_wp2
     go_ret
     exact ⟨rfl,bel_adv hbw12 hb13⟩
end Go.Proofs.YtlhkojcmcmkmaaaGreat
namespace Go.Proofs.YtlhkojcmcmkmaaaGreat.grossupGrows
open Go.ChangeShapes Go.WideShapes Go.ChangeAt Go.RowKit
open Go.ChangeMaps (open_string shut_string)
theorem own : ownKnob Tryz.prog.godebug = none:=by kernel_rfl
theorem laidOut : laidOutB Tryz.prog = true:=by kernel_rfl
set_option maxRecDepth 100000 in
theorem lifted (os:Os) (started:os.Started) (H:Type) (enc:TypeId × Value→H) :
  ReturnsInHanded {} Tryz.checked os 13 .any (Rows.grossupGrowsSpec.pre6 enc Tryz.prog Tryz.f13 Rows.grossupGrowsRow.domain false) (Rows.grossupGrowsSpec.post enc Tryz.prog Tryz.f13 false true false false):=by
 refine returnsInHanded_of_change (C:=Tryz.checked) own started (by kernel_rfl) Tryz.func13
  (ChangeSpec.witness6 (enc:=enc) (C:=Tryz.checked) false ⟨#[],#[.slice none 0 0,.int .i64 0],[]⟩ 8 (by kernel_rfl) (by kernel_rfl) (by kernel_rfl) (by kernel_rfl)) ?_
 intro W base args ds gs before hval0 hW _ _
 have hval:∀ (j:Nat) t v,Tryz.f13.params[j]? = some t→args[j]? = some v→Value.okWide Tryz.prog W .any base t v:=hval0
 have hW':=hW
 obtain ⟨p,q,hA0,hV,rfl,_,_⟩:=hW
 have hA:DataW.TrodAll enc Tryz.prog W 0 (fun _=>true) true Tryz.f13.params.toList args.toList ds p:=hA0
 rw [Tryz.params13] at hA hval
 obtain ⟨v0,vs0,d0,ds0,p0,q0,hargs,rfl,rfl,h0,r0⟩:=trodAll_cons hA
 obtain ⟨v1,vs1,d1,ds1,p1,q1,rfl,rfl,rfl,h1,r1⟩:=trodAll_cons r0
 obtain ⟨rfl,rfl,rfl⟩:=trodAll_nil r1
 obtain rfl:args = #[v0,v1]:=by cases args; simp_all
 obtain ⟨rfl,rfl⟩:=trodVars_none hV
 obtain ⟨a0,len0,cap0,rfl⟩:=okWide_slice Tryz.underlying34 (hval 0 34 v0 rfl rfl)
 have k0:=h0
 have lt0:∀ x ∈ p0,x.block < W.heap.size:=by obtain ⟨m,hm⟩:=k0; exact DataW.trod_lt m _ _ _ hm
 obtain ⟨xs0,rfl,hS0,hX0,hlc0,hcm0⟩:=openI h0
 have hl0:=Nat.le_trans hlc0 hcm0
 obtain ⟨n1,rfl,rfl,rfl,wn1⟩:=open_int Tryz.underlying3 (hval 1 3 v1 rfl rfl) h1
 clear hA0 hval0
 refine (grows33_walk a0 cap0 xs0 n1 W hS0 hl0 hX0).mono fun e W' ⟨he,bel⟩=>?_
 subst he
 exact ⟨_,rfl,_,_,_,[],_,[],hW',trodAll_mk1 (shut_bool Tryz.underlying4 _),(trodAll_cons_mk (Below.trod laidOut (by kernel_rfl) (of_decide_eq_true (by kernel_rfl)) k0 bel lt0) (trodAll_cons_mk (shut_int Tryz.underlying3 wn1) trodAll_mk0)),rfl,bel.frame _,fun h=>by cases h⟩
theorem t4 : (Rows.grossupGrowsRow.inPlace == Tryz.prog.inPlace 13) = true:=by kernel_rfl
theorem t5 : (Rows.grossupGrowsRow.unfollowed == Tryz.prog.unfollowed 13) = true:=by kernel_rfl
theorem t6 : (Rows.grossupGrowsRow.recurses == Tryz.prog.recurses 13) = true:=by kernel_rfl
theorem t7 : (Rows.grossupGrowsRow.named == Tryz.prog.varsNamed 13) = true:=by kernel_rfl
theorem t8 : (Rows.grossupGrowsRow.pinned == Rows.grossupGrowsRow.pinnedBy) = true:=by kernel_rfl
theorem t9 : (Rows.grossupGrowsRow.lifted == Tryz.prog.liftsFinal) = true:=by kernel_rfl
theorem tc : joinedFacts Tryz.prog 13 Tryz.f13 Rows.grossupGrowsSpec Rows.grossupGrowsRow = true:=by
 unfold joinedFacts
 rw [t4,t5,t6,t7,t8,t9]
 kernel_rfl
theorem tf : Tryz.pinned.checked.prog.funcNamed Rows.grossupGrowsRow.func = some 13:=by kernel_rfl
theorem over : Rows.grossupGrowsRow.holds Tryz.pinned (OpenSpec.ofChange Rows.grossupGrowsSpec) :=
 OpenClaim.holds_of_wide 13 Tryz.f13 rfl rfl rfl rfl rfl rfl rfl ⟨rfl,rfl,rfl,rfl,rfl⟩ rfl rfl rfl rfl rfl tf Tryz.func13 tc
  (of_decide_eq_true (by kernel_rfl)) (by unfold Func.isWrapper; first | (rw [if_pos (by decide +kernel)]; kernel_rfl) | (rw [if_neg (by decide +kernel)]; exact ⟨rfl,rfl⟩))
  (fun os started H enc _=>lifted os started H enc)
theorem proved : Rows.GrossupGrowsSaid:=over
#print axioms proved
end Go.Proofs.YtlhkojcmcmkmaaaGreat.grossupGrows
