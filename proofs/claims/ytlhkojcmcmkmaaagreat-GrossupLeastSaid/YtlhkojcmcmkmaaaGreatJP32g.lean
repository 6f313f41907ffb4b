/- Joined texts: P32g Sort. Conditions: as stated. -/
import Derived.Test.YtlhkojcmcmkmaaaGreatJNetP
import Derived.Test.YtlhkojcmcmkmaaaGreatJR30b
import Derived.Test.YtlhkojcmcmkmaaaGreatJBox
import Derived.Test.YtlhkojcmcmkmaaaGreatJCmp0
import Derived.Test.YtlhkojcmcmkmaaaGreatJP28d
namespace Go.Proofs.YtlhkojcmcmkmaaaGreat
open Go.RowKit
def ConK (w0:World) (g:Nat) (c:CalF) (s:CalS) (ls:List LineT) (I:NetIn) (w w' : World) : Prop :=
 ∃ v',CalI w0 g c { s with insured:=I.insured,lv:=v',left:=s.left - I.levies,levies:=I.levies,relief:=I.reliefTo I.r.schemes } (ls++I.levyL I.r.schemes) w'∧Mv g s.lv w v' w'
def conE (I:NetIn) : Int:=if I.overs = true then 4 else 0
def conS (I:NetIn) (s:CalS) (v:Value) (k:Nat) : CalS:={ s with insured:=I.insured,lv:=v,left:=s.left - I.leviesTo (I.r.schemes.take k),levies:=I.leviesTo (I.r.schemes.take k),relief:=I.reliefTo (I.r.schemes.take k) }
def ConR (w0:World) (g:Nat) (c:CalF) (s:CalS) (ls:List LineT) (I:NetIn) (w3:World) (k:Nat) (wr:World) : Prop :=
 ∃ v',CalI w0 g c (conS I s v' k) (ls++I.levyL (I.r.schemes.take k)) wr∧Mv g s.lv w3 v' wr∧Hid (∀ x ∈ I.r.schemes.take k,overJ (jointV x I.y.insured.length I.jobs) = false)
set_option maxRecDepth 100000 in
set_option maxHeartbeats 8000000 in
theorem contributeP32 {w0:World} {g:Nat} {c:CalF} {s:CalS} {ls:List LineT} {w:World} (h:CalI w0 g c s ls w) (hr:c.r.In w0) (hp:c.p.In w0) (hy:c.y.In w0) (I:NetIn) (hss:c.r.ss = I.r.schemes) (hjb:I.jobs = (⟨c.y.Ai,c.y.ci,c.y.ins,I.insured⟩ :: c.p.es : List EmpC).map EmpC.v)
  (hin:I.insured = max s.b.i 0) (_hin1:I.insured≤1000000000) (hsch:∀ x ∈ I.r.schemes,SchOk x) (hn:I.r.schemes.length≤12) (hemp:EmpsOk I.y.insured.length I.jobs)
  (hlv:∀ x ∈ I.r.schemes,overJ (jointV x I.y.insured.length I.jobs) = false→(0≤(I.levyOf x).employee∧(I.levyOf x).employee≤1000000000)∧0≤(I.levyOf x).employer∧(I.levyOf x).employer≤1000000000)
  (hls:ls.length≤1000) (l0 : -100000000000≤s.left) (l1:s.left≤100000000000) (hl0:s.levies = 0) (hr0:s.relief = 0) :
  Calls Tryz.prog 54 #[.pointer (some ⟨g,0,none⟩)] w (StepPost w0 (conE I) (ConK w0 g c s ls I w)):=by
 have HLV:=Lib.hid hlv
 have HSCH:=Lib.hid hsch
 have hpl:c.p.es.length≤7:=by have:=hemp.len; rw [hjb] at this; simp at this; omega
 have HSL:Hid (∀ W,Below w0.heap.size w0 W→SliceOf encSch 8 W W.heap.size c.r.As I.r.schemes):=fun W hb=>by rw [← hss]; exact (hr.adv hb).ss
 have HPE:Hid (∀ W,Below w0.heap.size w0 W→SliceOf encEm 2 W W.heap.size c.p.Ae c.p.es):=fun W hb=>(hp.adv hb).es
 have HJO:Hid (∀ W A cap,Below w0.heap.size w0 W→SliceOf encEm 2 W W.heap.size A (⟨c.y.Ai,c.y.ci,c.y.ins,I.insured⟩ :: c.p.es)→∀ x ∈ I.r.schemes,Calls Tryz.prog 107 #[.agg #[.string x.code,.int .i64 x.employee,.int .i64 x.employer,.int .i64 x.floor,.int .i64 x.ceiling,.int .i64 x.unit,.int .i64 x.mode,.bool x.deductible],.slice A (c.p.es.length+1) cap] W (LvPostF (jointL x I.y.insured.length I.jobs) (jointE x I.y.insured.length I.jobs) W)):=fun W A cap hb hS x hx=>by
  have:=jointP x A cap I.y.insured.length _ W hS (fun e he=>by
   rcases List.mem_cons.1 he with rfl | he
   ·
    exact (hy.adv hb).ins
   ·
    exact (hp.adv hb).ins e he) (hsch x hx) (by rw [← hjb]; exact hemp)
  rw [← hjb] at this
  exact this
 have HI:=Lib.hid h
 have z30:w.cell? ⟨g,30,none⟩ = some (.int .i64 s.b.i):=h.blk.cell 30
 have z37:w.cell? ⟨g,37,none⟩ = some (.int .i64 s.insured):=h.blk.cell 37
 have f37:=h.blk.frozen 37
 have HIN:Hid (max s.b.i 0 = I.insured):=hin.symm
 have HLL:Hid (∀ k,(I.levyL (I.r.schemes.take k)).length≤24):=fun k=>by
  have h1:=(I.levy_perm (I.r.schemes.take k)).length_eq
  have h2:=List.length_filter_le nz (I.ownTo (I.r.schemes.take k))
  have h3:=List.length_filter_le nz (I.emplTo (I.r.schemes.take k))
  simp only [linesK,NetIn.ownTo,NetIn.emplTo,List.length_append,List.length_map,List.length_take] at h1 h2 h3
  omega
 have HSS:=Lib.hid hss
 have HS0:Hid (∀ v,conS I s v 0 = { s with insured:=I.insured,lv:=v }):=fun v=>by
  unfold conS; simp [NetIn.leviesTo,NetIn.reliefTo,sumI,hl0,hr0]
 clear h hr hp hy hjb hin hsch hemp hlv hl0 hr0 hss
 go_enter Tryz.func54,Tryz.ntmps54
 go_upto_region 2 with fail
 rw [HIN.out]
 have hI1:=HI.out.putInsured I.insured
 have hm1:=Mv.set (w:=w) (v:=s.lv) (g:=g) 37 (.int .i64 I.insured)
 generalize w.setCell ⟨g,37,none⟩ _ = W1 at hI1 hm1 ⊢
 clear HI z30 z37 f37 HIN
 have hl1:=hI1.lt
 have zz23:W1.cell? ⟨g,23,none⟩ = some (.slice c.y.Ai c.y.ins.length c.y.ci):=hI1.blk.cell 23
 have zz37:W1.cell? ⟨g,37,none⟩ = some (.int .i64 I.insured):=hI1.blk.cell 37
 refine wp_region_new (aE:=?aE1) [0,1,2,3,4,5,6,7,8,9] [11] 10 (fun b:Nat=>.slice (some ⟨b,0,none⟩) 1 1) ?aJ1 (fun b w'=>Own encEm 2 137 w' W1.heap.size (.slice (some ⟨b,0,none⟩) 1 1) [⟨c.y.Ai,c.y.ci,c.y.ins,I.insured⟩]) (by kernel_rfl) (by kernel_rfl) rfl (by kernel_rfl) (by kernel_rfl) (by rfl) (by kernel_rfl) (by kernel_rfl) (by rfl) (by kernel_rfl) (by kernel_rfl) rfl rfl ?H1 ?S1 ?R1 ?HC1 ?J1 ?M1
 case H1 =>
  intro F hF inst
  simp only [M3.opsAt,List.getElem?_toArray,List.getElem?_cons_zero,List.getElem?_cons_succ]
  have e23:=BwC.cellB (F:=F) (a:=⟨g,23,none⟩) (by exact hl1) zz23
  have e37:=BwC.cellB (F:=F) (a:=⟨g,37,none⟩) (by exact hl1) zz37
  repeat (first | go_big_quiet_step (first | fail) | quiet_step (first | fail))
  refine wpQuiet_nil ?_
  rfl
 case S1=>rfl
 case R1=>exact fun x w1 w2 hx hb=>hx.adv hb
 case HC1=>exact fun w2 hb2=>⟨w2.heap.size,w2.alloc (.cells #[.slice c.y.Ai c.y.ins.length c.y.ci,.int .i64 I.insured] 137),by go_simp,below_new _ _,Own.lit (base:=W1.heap.size) encEm_len w2 [⟨c.y.Ai,c.y.ci,c.y.ins,I.insured⟩] #[.slice c.y.Ai c.y.ins.length c.y.ci,.int .i64 I.insured] 137 rfl (by simp) hb2.size⟩
 case J1 =>
  intro x F hF inst
  simp only [M3.opsAt,List.getElem?_toArray,List.getElem?_cons_zero,List.getElem?_cons_succ]
  repeat (first | go_big_quiet_step (fail) | quiet_step (fail))
  refine wpQuiet_nil ?_
  rfl
 case M1 =>
  intro b w2 hb2 hO2
  try simp only [Act.put,List.setIfInBounds_toArray,List.set_cons_succ,List.set_cons_zero]
  have hI2:=hI1.adv hb2
  have z19:w2.cell? ⟨g,19,none⟩ = some (.slice c.p.Ae c.p.es.length c.p.ce):=hI2.blk.cell 19
  have hPE:=HPE.out w2 hI2.bel
  have hs2:=hb2.size
  clear zz23 zz37 HPE
  go_upto_region 4 with (at_builtin; (refine wpList_append_list (ys:=c.p.es) _ _ 48 _ 32 _ infoEm Tryz.underlying48 hO2 hPE encEm_len (by omega) rfl encEm_one (by simp; omega) (by omega) (by omega) (by rfl) (by rfl) (by rfl) (by rfl) (by rfl) ?_); intro v3 w3 hO3 hg3)
  simp only [List.cons_append,List.nil_append] at hO3
  obtain ⟨AJ,cJ,hvJ,hSJ,hBJ,_,_⟩:=hO3.form2 encEm_len
  subst hvJ
  have hb3:Below W1.heap.size W1 w3:=hb2.trans (only_below hg3 hb2.size (fun q hq=>(hO2.block_lt hq).1))
  have hI3:=hI1.adv hb3
  have hm3:=hm1.trans (Mv.bel hb3)
  have HJL:Hid (Lst encEm 2 w3 g s.lv AJ (⟨c.y.Ai,c.y.ci,c.y.ins,I.insured⟩ :: c.p.es)):=Lst.new hSJ hBJ hI1.lt (fun q hq=>(hI1.row q hq).2)
  clear hI1 hm1 hI2 z19 hPE hs2 hO2 hO3 hg3 hb3 hb2 hSJ hBJ
  have z1:w3.cell? ⟨g,1,none⟩ = some (.slice c.r.As I.r.schemes.length c.r.cs):=by rw [← HSS.out]; exact hI3.blk.cell 1
  go_wp2_with fail
  go_loopw [42] (fun i wr=>∃ k:Nat,k≤I.r.schemes.length∧i = .int .i64 k∧ConR w0 g c s ls I w3 k wr) (fun i _=>I.r.schemes.length - (intOf i).toNat)
  case atStart=>exact ⟨0,by omega,rfl,s.lv,by rw [HS0.out]; simpa [NetIn.levyL] using hI3,Mv.refl _ _ _,fun x hx=>by simp at hx⟩
  case round =>
   rename World=>wr
   clear z1
   obtain ⟨k,hk,rfl,vl,hI,hm,hNo⟩:=hrel
   have hI':CalI w0 g c (conS I s vl k) (ls++I.levyL (I.r.schemes.take k)) wr:=hI
   have hBD:=levies_bd (I:=I) (k:=k) hn (fun x hx=>(HLV.out x (List.mem_of_mem_take hx) (hNo.out x hx)).1)
   obtain ⟨⟨v0,v1⟩,v2,v3⟩:=hBD
   by_cases hlt:k < I.r.schemes.length
   ·
    obtain ⟨sb,so,hAe,hsb,hc⟩:=(HSL.out wr hI.bel).at_ hlt
    have c0:=hc 0 _ rfl
    have c1:=hc 1 _ rfl
    have c2:=hc 2 _ rfl
    have c3:=hc 3 _ rfl
    have c4:=hc 4 _ rfl
    have c5:=hc 5 _ rfl
    have c6:=hc 6 _ rfl
    have c7:=hc 7 _ rfl
    simp only [Nat.add_zero] at c0
    rw [hAe]
    have hmem:=List.getElem_mem hlt
    have hki:(k:Int) < (I.r.schemes.length:Int):=by omega
    have hJL:=HJL.out.mv hm
    have HJX:=Lib.hid (fun W A cap hb hS=>HJO.out W A cap hb hS _ hmem)
    have HLX:=Lib.hid (HLV.out _ hmem)
    have HYES:Hid (overJ (jointV I.r.schemes[k] I.y.insured.length I.jobs) = true→I.overs = true):=fun ho=>overs_yes hmem ho
    have HNO2:Hid (overJ (jointV I.r.schemes[k] I.y.insured.length I.jobs) = false→∀ x ∈ I.r.schemes.take (k+1),overJ (jointV x I.y.insured.length I.jobs) = false):=fun ho x hx=>by
     rw [List.take_succ_eq_append_getElem hlt] at hx
     rcases List.mem_append.1 hx with hx | hx
     ·
      exact hNo.out x hx
     ·
      simp at hx; subst hx; exact ho
    have HE1:=Lib.hid (levies_succ (I:=I) hlt)
    have HE2:=Lib.hid (relief_succ (I:=I) hlt)
    have HE3:=Lib.hid (levyL_succ (I:=I) hlt)
    have hl3:=HLL.out k
    clear hc hmem hNo
    generalize I.r.schemes[k] = x at *
    have hBo:=Blk.new wr 123 #[.string x.code,.int .i64 x.employee,.int .i64 x.employer,.int .i64 x.floor,.int .i64 x.ceiling,.int .i64 x.unit,.int .i64 x.mode,.bool x.deductible]
    have hbn:=below_new wr (.cells #[.string x.code,.int .i64 x.employee,.int .i64 x.employer,.int .i64 x.floor,.int .i64 x.ceiling,.int .i64 x.unit,.int .i64 x.mode,.bool x.deductible] 123)
    have hfr:vl.ownBlock ≠ some wr.heap.size:=fun e=>by have:=(hI.row _ e).2; omega
    have hgr:wr.heap.size ≠ g:=by have:=hI.lt; omega
    go_upto_region 7 with fail
    generalize wr.alloc (Obj.cells _ _) = W2 at hBo hbn ⊢
    have hI2:=hI.adv hbn
    have hm2:=hm.trans (Mv.bel hbn)
    have hJL2:=hJL.sl.adv hbn
    clear hI' hI hm hbn hJL c0 c1 c2 c3 c4 c5 c6 c7
    generalize wr.heap.size = gs at *
    have z0:=hBo.cell 0
    have z1:=hBo.cell 1
    have z2:=hBo.cell 2
    have z3:=hBo.cell 3
    have z4:=hBo.cell 4
    have z5:=hBo.cell 5
    have z6:=hBo.cell 6
    have z7:=hBo.cell 7
    simp only [nqg,nqh,nqi] at z0 z1 z2 z3 z4 z5 z6 z7
    go_wp2_with fail
    refine (HJX.out W2 AJ cJ hI2.bel hJL2).mono ?_
    rintro e w4 ⟨A4,c4,rfl,hS4,hc4,hf4,hb4⟩
    have hI4:=hI2.adv hb4
    have hm4:=hm2.trans (Mv.bel hb4)
    have hBs4:=hBo.adv hb4
    clear hI2 hm2 hJL2 hBo hb4 HJX z0 z1 z2 z3 z4 z5 z6 z7
    rcases ho:overJ (jointV x I.y.insured.length I.jobs) with _ | _
    rotate_left
    ·
     obtain ⟨j1,j2⟩:=joint_yes ho
     rw [j1,j2]
     have hbel:=hI4.bel
     have HE:Hid (conE I = 4):=by rw [Hid,conE,if_pos (HYES.out ho)]
     go_wp2
     go_ret
     rw [HE.out]
     exact ⟨rfl,hbel,fun e=>by cases e⟩
    obtain ⟨j1,rest,j2⟩:=joint_no ho
    rw [j1]
    rw [j2] at hS4 ⊢
    have HNX:=Lib.hid (HNO2.out ho)
    obtain ⟨⟨p0,p1⟩,p2,p3⟩:=HLX.out ho
    clear j1 j2 ho HYES HNO2 HLX hc4
    generalize I.levyOf x = lv at *
    obtain ⟨lb,lo,hA4,hlb,hcl⟩:=hS4.at_ (i:=0) (by simp)
    subst hA4
    have q0:=hcl 0 _ rfl
    have q1:=hcl 1 _ rfl
    have q2:=hcl 2 _ rfl
    simp only [Nat.zero_mul,Nat.add_zero,List.getElem_cons_zero] at q0 q1 q2
    simp only [List.length_cons]
    generalize rest.length = nr
    have hBl:=Blk.new w4 142 #[.int .i64 0,.int .i64 0,.int .i64 0]
    have hbl:=below_new w4 (.cells #[.int .i64 0,.int .i64 0,.int .i64 0] 142)
    have q0':=(hbl.cell (p:=⟨lb,lo,none⟩) (by exact hlb)).trans q0
    have q1':=(hbl.cell (p:=⟨lb,lo+1,none⟩) (by exact hlb)).trans q1
    have q2':=(hbl.cell (p:=⟨lb,lo+2,none⟩) (by exact hlb)).trans q2
    have hgl:w4.heap.size ≠ g:=by have:=hI4.lt; omega
    have hvl:vl.ownBlock ≠ some w4.heap.size:=fun e=>by have:=(hI4.row _ e).2; omega
    have hne4:w4.heap.size ≠ lb:=by omega
    clear hcl hS4 hf4 q0 q1 q2
    go_upto_region 11 with fail
    generalize w4.alloc (Obj.cells _ _) = W5 at hBl hbl q0' q1' q2' ⊢
    have b0:=hBl.cell 0
    have b1:=hBl.cell 1
    have b2:=hBl.cell 2
    simp only [nqg,nqh,nqi] at b0 b1 b2
    have g0:=hBl.frozen 0
    have g1:=hBl.frozen 1
    have g2:=hBl.frozen 2
    have hn0:(0:Int) < ((nr+1:Nat) : Int):=by omega
    go_upto_region 13 with fail
    have hR:=hBl.fill [.int .i64 lv.base,.int .i64 lv.employee,.int .i64 lv.employer] rfl
    have hb5:=below_fill (B:=w4.heap.size) (g:=w4.heap.size) (Nat.le_refl _) [.int .i64 lv.base,.int .i64 lv.employee,.int .i64 lv.employer] 0 hbl
    simp only [putAll,Nat.zero_add,Nat.reduceAdd] at hR hb5
    generalize ((W5.setCell ⟨w4.heap.size,0,none⟩ (.int .i64 lv.base)).setCell ⟨w4.heap.size,1,none⟩ (.int .i64 lv.employee)).setCell ⟨w4.heap.size,2,none⟩ (.int .i64 lv.employer) = W6 at hR hb5 ⊢
    have hI6:=hI4.adv hb5
    have hm6:=hm4.trans (Mv.bel hb5)
    have hBs6:=hBs4.adv hb5
    clear hBl hbl hb5 q0' q1' q2' b0 b1 b2 g0 g1 g2 hI4 hm4 hBs4
    have s0:W6.cell? ⟨gs,0,none⟩ = some (.string x.code):=hBs6.cell 0
    have l1':W6.cell? ⟨w4.heap.size,1,none⟩ = some (.int .i64 lv.employee):=hR.cell 1
    have hk4:(linesK 4 [⟨x.code,lv.employee⟩]).length≤1:=by simp [linesK]; exact List.length_filter_le _ _
    have hk5:(linesK 5 [⟨x.code,lv.employer⟩]).length≤1:=by simp [linesK]; exact List.length_filter_le _ _
    go_wp2_with fail
    refine (lineP32 hI6 4 x.code lv.employee (by simp; omega)).mono ?_
    rintro e w7 ⟨rfl,v7,hI7,hm7⟩
    have h7s:=hm7.far hBs6.lt hfr
    have h7l:=hm7.far hR.lt hvl
    have hBs7:=hBs6.mv hm7 hgr hfr
    have hBl7:=hR.mv hm7 hgl hvl
    have hm8:=hm6.trans hm7
    clear hI6 hm6 hm7 hBs6 hR s0 l1'
    have s0:w7.cell? ⟨gs,0,none⟩ = some (.string x.code):=hBs7.cell 0
    have l2':w7.cell? ⟨w4.heap.size,2,none⟩ = some (.int .i64 lv.employer):=hBl7.cell 2
    go_wp2_with fail
    refine (lineP32 hI7 5 x.code lv.employer (by simp only [List.length_append]; omega)).mono ?_
    rintro e w8 ⟨rfl,v8,hI8,hm7⟩
    have h8s:=hm7.far hBs7.lt h7s
    have h8l:=hm7.far hBl7.lt h7l
    have hBs8:=hBs7.mv hm7 hgr h7s
    have hBl8:=hBl7.mv hm7 hgl h7l
    have hm9:=hm8.trans hm7
    rw [List.append_assoc,List.append_assoc,← HE3.out] at hI8
    clear hI7 hm8 hm7 hBs7 hBl7 s0 l2' h7s h7l
    have hI8':CalI w0 g c (conS I s v8 k) (ls++I.levyL (I.r.schemes.take (k+1))) w8:=hI8
    clear hI8
    have hlt15:=hI8'.lt
    have hll15:=hBl8.lt
    have zz33:w8.cell? ⟨g,33,none⟩ = some (.int .i64 (s.left - I.leviesTo (I.r.schemes.take k))):=hI8'.blk.cell 33
    have yy1:w8.cell? ⟨w4.heap.size,1,none⟩ = some (.int .i64 lv.employee):=hBl8.cell 1
    go_upto_region 15 with fail
    refine wp_region_fin2 (aE:=?aE15) [0,1,2,3,4,5,6] 7 8 9 (.pointer (some ⟨g,0,none⟩)) (.pointer (some ⟨g,33,none⟩)) (by kernel_rfl) (by kernel_rfl) rfl (by kernel_rfl) (by rfl) (by kernel_rfl) (by kernel_rfl) (by kernel_rfl) (by kernel_rfl) rfl rfl rfl rfl rfl rfl rfl rfl ?H15 ?E15 ?G15 ?M15
    case H15 =>
     intro F hF inst
     simp only [M3.opsAt,List.getElem?_toArray,List.getElem?_cons_zero,List.getElem?_cons_succ]
     have e33:=BwC.cellB (F:=F) (a:=⟨g,33,none⟩) (by exact hlt15) zz33
     have d1:=BwC.cellB (F:=F) (a:=⟨w4.heap.size,1,none⟩) (by exact hll15) yy1
     repeat (first | go_big_quiet_step (first | fail) | quiet_step (first | fail))
     refine wpQuiet_nil ?_
     rfl
    case E15=>exact fun _=>by first | rfl | go_simp
    case G15=>exact fun _=>by first | rfl | go_simp
    case M15 =>
     intro y15 hy15
     try simp only [Act.put,List.setIfInBounds_toArray]
     have hX:=hI8'.adv hy15
     have hM:=hm9.trans (Mv.bel hy15)
     have hBS:=hBs8.adv hy15
     have hBL:=hBl8.adv hy15
     have e33:y15.cell? ⟨g,33,none⟩ = some (.int .i64 (s.left - I.leviesTo (I.r.schemes.take k))):=hX.blk.cell 33
     have f33:=hX.blk.frozen 33
     refine ⟨y15.setCell ⟨g,33,none⟩ (.int .i64 (s.left - I.leviesTo (I.r.schemes.take k) - lv.employee)),by go_simp,?_⟩
     have hI15:=hX.putLeft (s.left - I.leviesTo (I.r.schemes.take k) - lv.employee)
     have hMs:=Mv.set (w:=y15) (v:=v8) (g:=g) 33 (.int .i64 (s.left - I.leviesTo (I.r.schemes.take k) - lv.employee))
     have hm15:=hM.trans hMs
     have hBs15:=hBS.mv hMs hgr h8s
     have hBl15:=hBL.mv hMs hgl h8l
     generalize y15.setCell ⟨g,33,none⟩ (.int .i64 (s.left - I.leviesTo (I.r.schemes.take k) - lv.employee)) = w15 at hI15 hm15 hBs15 hBl15 ⊢
     clear hX hM hBS hBL e33 f33 hMs hI8' hm9 hBs8 hBl8 zz33 yy1 hlt15 hll15 hy15
     have hlt16:=hI15.lt
     have hll16:=hBl15.lt
     have zz38:w15.cell? ⟨g,38,none⟩ = some (.int .i64 (I.leviesTo (I.r.schemes.take k))):=hI15.blk.cell 38
     have yy1:w15.cell? ⟨w4.heap.size,1,none⟩ = some (.int .i64 lv.employee):=hBl15.cell 1
     go_upto_region 16 with fail
     refine wp_region_fin2 (aE:=?aE16) [0,1,2,3,4,5,6] 7 8 9 (.pointer (some ⟨g,0,none⟩)) (.pointer (some ⟨g,38,none⟩)) (by kernel_rfl) (by kernel_rfl) rfl (by kernel_rfl) (by rfl) (by kernel_rfl) (by kernel_rfl) (by kernel_rfl) (by kernel_rfl) rfl rfl rfl rfl rfl rfl rfl rfl ?H16 ?E16 ?G16 ?M16
     case H16 =>
      intro F hF inst
      simp only [M3.opsAt,List.getElem?_toArray,List.getElem?_cons_zero,List.getElem?_cons_succ]
      have e38:=BwC.cellB (F:=F) (a:=⟨g,38,none⟩) (by exact hlt16) zz38
      have d1:=BwC.cellB (F:=F) (a:=⟨w4.heap.size,1,none⟩) (by exact hll16) yy1
      repeat (first | go_big_quiet_step (first | fail) | quiet_step (first | fail))
      refine wpQuiet_nil ?_
      rfl
     case E16=>exact fun _=>by first | rfl | go_simp
     case G16=>exact fun _=>by first | rfl | go_simp
     case M16 =>
      intro y16 hy16
      try simp only [Act.put,List.setIfInBounds_toArray]
      have hX:=hI15.adv hy16
      have hM:=hm15.trans (Mv.bel hy16)
      have hBS:=hBs15.adv hy16
      have hBL:=hBl15.adv hy16
      have e38:y16.cell? ⟨g,38,none⟩ = some (.int .i64 (I.leviesTo (I.r.schemes.take k))):=hX.blk.cell 38
      have f38:=hX.blk.frozen 38
      refine ⟨y16.setCell ⟨g,38,none⟩ (.int .i64 (I.leviesTo (I.r.schemes.take k)+lv.employee)),by go_simp,?_⟩
      have hI16:=hX.putLevies (I.leviesTo (I.r.schemes.take k)+lv.employee)
      have hMs:=Mv.set (w:=y16) (v:=v8) (g:=g) 38 (.int .i64 (I.leviesTo (I.r.schemes.take k)+lv.employee))
      have hm16:=hM.trans hMs
      have hBs16:=hBS.mv hMs hgr h8s
      have hBl16:=hBL.mv hMs hgl h8l
      generalize y16.setCell ⟨g,38,none⟩ (.int .i64 (I.leviesTo (I.r.schemes.take k)+lv.employee)) = w16 at hI16 hm16 hBs16 hBl16 ⊢
      clear hX hM hBS hBL e38 f38 hMs hI15 hm15 hBs15 hBl15 zz38 yy1 hlt16 hll16 hy16
      have s7:w16.cell? ⟨gs,7,none⟩ = some (.bool x.deductible):=hBs16.cell 7
      rcases hde:x.deductible with _ | _
      ·
       rw [hde] at s7 HE2
       have HFS:Hid (({ ({ (conS I s v8 k) with left:=s.left - I.leviesTo (I.r.schemes.take k) - lv.employee } : CalS) with levies:=I.leviesTo (I.r.schemes.take k)+lv.employee } : CalS) = conS I s v8 (k+1)):=by
        unfold conS
        rw [Hid,HE1.out,HE2.out]; simp [Int.sub_sub]
       rw [HFS.out] at hI16
       go_wp2
       go_roundw
       case rel =>
        have hfin:∃ k':Nat,k'≤I.r.schemes.length∧Value.int .i64 ((k:Int)+1) = .int .i64 k'∧ConR w0 g c s ls I w3 k' w16:=⟨k+1,by omega,by go_num,v8,hI16,hm16,HNX.out⟩
        first | exact hfin | ((repeat apply Exists.intro); exact ⟨hfin,rfl,rfl,rfl,rfl,rfl,rfl⟩) | ((repeat apply Exists.intro); exact ⟨hfin,rfl⟩)
       case measure=>simp [intOf]; omega
      ·
       rw [hde] at s7 HE2
       have HFS:Hid (({ ({ ({ (conS I s v8 k) with left:=s.left - I.leviesTo (I.r.schemes.take k) - lv.employee } : CalS) with levies:=I.leviesTo (I.r.schemes.take k)+lv.employee } : CalS) with relief:=I.reliefTo (I.r.schemes.take k)+lv.employee } : CalS) = conS I s v8 (k+1)):=by
        unfold conS
        rw [Hid,HE1.out,HE2.out]; simp [Int.sub_sub]
       have hlt18:=hI16.lt
       have hll18:=hBl16.lt
       have zz39:w16.cell? ⟨g,39,none⟩ = some (.int .i64 (I.reliefTo (I.r.schemes.take k))):=hI16.blk.cell 39
       have yy1:w16.cell? ⟨w4.heap.size,1,none⟩ = some (.int .i64 lv.employee):=hBl16.cell 1
       go_upto_region 18 with fail
       refine wp_region_fin2 (aE:=?aE18) [0,1,2,3,4,5,6] 7 8 9 (.pointer (some ⟨g,0,none⟩)) (.pointer (some ⟨g,39,none⟩)) (by kernel_rfl) (by kernel_rfl) rfl (by kernel_rfl) (by rfl) (by kernel_rfl) (by kernel_rfl) (by kernel_rfl) (by kernel_rfl) rfl rfl rfl rfl rfl rfl rfl rfl ?H18 ?E18 ?G18 ?M18
       case H18 =>
        intro F hF inst
        simp only [M3.opsAt,List.getElem?_toArray,List.getElem?_cons_zero,List.getElem?_cons_succ]
        have e39:=BwC.cellB (F:=F) (a:=⟨g,39,none⟩) (by exact hlt18) zz39
        have d1:=BwC.cellB (F:=F) (a:=⟨w4.heap.size,1,none⟩) (by exact hll18) yy1
        repeat (first | go_big_quiet_step (first | fail) | quiet_step (first | fail))
        refine wpQuiet_nil ?_
        rfl
       case E18=>exact fun _=>by first | rfl | go_simp
       case G18=>exact fun _=>by first | rfl | go_simp
       case M18 =>
        intro y18 hy18
        try simp only [Act.put,List.setIfInBounds_toArray]
        have hX:=hI16.adv hy18
        have hM:=hm16.trans (Mv.bel hy18)
        have hBS:=hBs16.adv hy18
        have hBL:=hBl16.adv hy18
        have e39:y18.cell? ⟨g,39,none⟩ = some (.int .i64 (I.reliefTo (I.r.schemes.take k))):=hX.blk.cell 39
        have f39:=hX.blk.frozen 39
        refine ⟨y18.setCell ⟨g,39,none⟩ (.int .i64 (I.reliefTo (I.r.schemes.take k)+lv.employee)),by go_simp,?_⟩
        have hI18:=hX.putRelief (I.reliefTo (I.r.schemes.take k)+lv.employee)
        have hMs:=Mv.set (w:=y18) (v:=v8) (g:=g) 39 (.int .i64 (I.reliefTo (I.r.schemes.take k)+lv.employee))
        have hm18:=hM.trans hMs
        have hBs18:=hBS.mv hMs hgr h8s
        have hBl18:=hBL.mv hMs hgl h8l
        generalize y18.setCell ⟨g,39,none⟩ (.int .i64 (I.reliefTo (I.r.schemes.take k)+lv.employee)) = w18 at hI18 hm18 hBs18 hBl18 ⊢
        clear hX hM hBS hBL e39 f39 hMs hI16 hm16 hBs16 hBl16 zz39 yy1 hlt18 hll18 hy18
        rw [HFS.out] at hI18
        go_wp2
        go_roundw
        case rel =>
         have hfin:∃ k':Nat,k'≤I.r.schemes.length∧Value.int .i64 ((k:Int)+1) = .int .i64 k'∧ConR w0 g c s ls I w3 k' w18:=⟨k+1,by omega,by go_num,v8,hI18,hm18,HNX.out⟩
         first | exact hfin | ((repeat apply Exists.intro); exact ⟨hfin,rfl,rfl,rfl,rfl,rfl,rfl⟩) | ((repeat apply Exists.intro); exact ⟨hfin,rfl⟩)
        case measure=>simp [intOf]; omega
   ·
    obtain rfl:k = I.r.schemes.length:=by omega
    rw [List.take_length] at hI hNo
    have HE:Hid (conE I = 0):=by rw [Hid,conE,if_neg (by rw [overs_no hNo.out]; simp)]
    have hS:conS I s vl I.r.schemes.length = { s with insured:=I.insured,lv:=vl,left:=s.left - I.levies,levies:=I.levies,relief:=I.reliefTo I.r.schemes }:=by
     unfold conS NetIn.levies; rw [List.take_length]
    rw [hS] at hI
    have hmf:=hm3.trans hm
    clear hI' hS hm hm3 hI3
    go_wp2
    go_ret
    rw [HE.out]
    exact ⟨rfl,hI.bel,fun _=>⟨vl,hI,hmf⟩⟩
end Go.Proofs.YtlhkojcmcmkmaaaGreat
namespace Go.Proofs.YtlhkojcmcmkmaaaGreat
open Go.RowKit Go.Sort Go.Shelf
def cmpW (x y : Elem) : Int:=cmpS x.code y.code
instance instInhElemW : Inhabited Elem:=⟨⟨⟨#[]⟩,0⟩⟩
theorem ltW (x y : Elem) : ltOf cmpW x y = lessE x y:=by
 unfold ltOf cmpW cmpS lessE
 split
 ·
  rename_i h; simp [h]
 ·
  rename_i h
  have h':Op.bytesLess x.code.toList y.code.toList = false:=by simpa using h
  split <;> simp [h']
theorem swoW : SWO (ltOf cmpW) where
 irrefl x:=by rw [ltW,lessE,less_eq]; simp
 trans x y z h1 h2:=by
  rw [ltW,lessE,less_eq] at *
  simp only [decide_eq_true_eq] at *
  exact List.lt_trans h1 h2
 ntrans x y z h1 h2:=by
  rw [ltW,lessE,less_eq] at *
  simp only [decide_eq_false_iff_not,List.not_lt] at *
  exact List.le_trans h2 h1
set_option maxHeartbeats 1000000 in
theorem closure_any (x y : Elem) (W:World) : Calls Tryz.prog 194 #[.agg #[.string x.code,.int .i64 x.amount],.agg #[.string y.code,.int .i64 y.amount]] W fun e w'=>e = .returned (.int .i64 (cmpW x y))∧∃ q os',w' = grow (W.drewN q) os':=by
 go_enter Tryz.func194,Tryz.ntmps194
 go_wp2_with (go_at_call 85; refine (compare_any _ _ _).mono ?_; rintro e w' ⟨rfl,rfl⟩)
 go_ret
 exact ⟨rfl,0,_,by rw [alloc_eq_grow,alloc_eq_grow,grow_grow]; rfl⟩
theorem only_sortWorldW (w:World) (blk off n : Nat) (d:Array Elem) (os:Array Obj) : w.grownBy (sortWorldK encE 2 w blk off n d os) (some blk):=by
 refine ⟨rfl,rfl,rfl,size_sortWorldK_c encE 2 w blk off n d os,fun i hi hne=>?_⟩
 have hne':blk ≠ i:=fun e=>hne (by rw [e])
 have hsz:(putRowK encE 2 (Sort.ahead w n) blk off d).heap.size = w.heap.size:=by simp [putRowK,putRow,mapBlock,Sort.ahead]
 show ((putRowK encE 2 (Sort.ahead w n) blk off d).heap++os)[i]? = w.heap[i]?
 rw [Array.getElem?_append_left (by omega)]
 show (w.heap.modify blk _)[i]? = _
 rw [Array.getElem?_modify,if_neg hne']
set_option maxHeartbeats 1000000 in
theorem sortW_any (A:Option Addr) (cap base : Nat) (xs:List Elem) (w:World) (hown:Own encE 2 69 w base (.slice A xs.length cap) xs) (hl:xs.length < 4611686018427387904) :
  Calls Tryz.prog 170 #[.slice A xs.length cap,.func (.func 194) #[] #[]] w fun e w'=>e = .returned (.tuple #[]) ∧
   ∃ ys:List Elem,ys.Perm xs∧ys.Pairwise (fun a b=>lessE b a = false)∧SliceOf encE 2 w' w'.heap.size A ys∧Below base w w':=by
 rcases hown.2 with ⟨hv,h0⟩ | ⟨g,cap',cur,hv,hb,hg,hn,hm,hs,ht⟩
 ·
  injection hv with h1 h2 h3
  obtain rfl:xs = []:=List.eq_nil_of_length_eq_zero h0
  have hcon:=AnyF.slices_SortFunc_none { Tryz.sortE with } A cap (.func (.func 194) #[] #[]) w
  refine Calls.mono hcon fun e w' ⟨he,hw⟩=>⟨he,[],List.Perm.refl _,List.Pairwise.nil,SliceOf.nil_,by rw [hw]; exact Below.refl _ _⟩
 ·
  injection hv with h1 h2 h3
  subst h1 h3
  have hgl:=(Array.getElem?_eq_some_iff.1 hg).1
  have eg:∀ args w,(callFunc 194 args).run Tryz.prog w = .ok (.enter 194 args) w:=enters_of Tryz.func194 (by kernel_rfl) rfl
  have hcmp:CmpLays Tryz.prog 194 #[] encE 2 cmpW g 0 xs.toArray.size w:=fun _ _ _ _ x y=>closure_any x y _
  have hH:HoldsK encE 2 w g 0 xs.toArray:=by
   intro j hj
   rw [size_flatK] at hj
   simp only [List.size_toArray] at hj
   have hdiv:j / 2 < xs.length:=by omega
   have hmod:j % 2 < 2:=Nat.mod_lt _ (by omega)
   refine ⟨?_,by simp [World.frozen?,hg]⟩
   rw [get_flatK _ _ _ _ (by simpa using hj),Nat.zero_add,cell_of_row w g j cur _ (0,0) hg]
   have hx:xs.toArray[j / 2]! = xs[j / 2]:=by simp [hdiv]
   rw [hx]
   have hu:(encE xs[j / 2])[j % 2]? = some ((encE xs[j / 2])[j % 2]!):=by
    have hlt:j % 2 < (encE xs[j / 2]).length:=by rw [encE_len]; exact hmod
    rw [List.getElem?_eq_getElem hlt,getElem!_pos (encE xs[j / 2]) (j % 2) hlt]
   have h1:=flatMap_at encE_len xs (j / 2) (j % 2) _ _ (List.getElem?_eq_getElem hdiv) hu
   rw [show j / 2 * 2+j % 2 = j by omega] at h1
   rw [← ht,List.getElem?_take,if_pos (by omega)] at h1
   simpa using h1
  have hcon:=AnyQ.slices_SortFunc Tryz.sortE 2 Tryz.isAgg69 Tryz.sizeOf69 encE encE_len encE_one cmpW swoW 194 #[] g 0 cap xs.toArray w eg hcmp hH hgl (by simpa using hl)
  have hcon':Calls Tryz.prog 170 #[.slice (some ⟨g,0,none⟩) xs.length cap,.func (.func 194) #[] #[]] w _:=hcon
  refine hcon'.mono ?_
  rintro e w' ⟨he,d',n,os,hp,hsd,rfl⟩
  obtain ⟨hp1,hp2,hp3⟩:=hp
  refine ⟨he,d'.toList,?_,?_,?_,only_below (only_sortWorldW _ _ _ _ _ _) (by omega) (fun q e=>by injection e; omega)⟩
  ·
   have e1:xs.toArray.size = xs.length:=by simp
   rw [e1] at hp1 hp3
   have e2:(d'.extract 0 xs.length) = d':=by rw [← hp1]; simp
   have e3:(xs.toArray.extract 0 xs.length) = xs.toArray:=by simp
   rw [e2,e3] at hp3
   exact hp3
  ·
   rw [List.pairwise_iff_getElem]
   intro i j hi hj hij
   have h1:=hsd i j (Nat.zero_le _) hij (by rw [← hp1]; simpa using hj)
   rw [ltW,getElem!_pos d' i (by simpa using hi),getElem!_pos d' j (by simpa using hj)] at h1
   simpa using h1
  ·
   intro _
   refine ⟨g,0,rfl,lt_sortWorldK encE 2 w g 0 n d' os hgl,fun i x hi j u hu=>?_⟩
   have hH':=holdsK_sortWorldK_c encE 2 w g 0 xs.toArray d' n os hH hgl hp1
   have hil:i < d'.size:=by simpa using (List.getElem?_eq_some_iff.1 hi).1
   have hjl:j < 2:=by have:=(List.getElem?_eq_some_iff.1 hu).1; rwa [encE_len] at this
   have h1:=(hH' (i * 2+j) (by rw [size_flatK]; omega)).1
   rw [get_flatK _ _ _ _ (by omega),show (i * 2+j) / 2 = i by omega,show (i * 2+j) % 2 = j by omega,getElem!_pos d' i hil] at h1
   have hx:d'[i] = x:=by
    have:=(List.getElem?_eq_some_iff.1 hi).2
    simpa using this
   rw [hx] at h1
   have hu2:(encE x)[j]! = u:=by
    have hlt:=(List.getElem?_eq_some_iff.1 hu).1
    rw [getElem!_pos (encE x) j hlt]
    exact (List.getElem?_eq_some_iff.1 hu).2
   rw [hu2] at h1
   rw [Nat.zero_add]
   rw [Nat.zero_add] at h1
   exact h1
end Go.Proofs.YtlhkojcmcmkmaaaGreat
