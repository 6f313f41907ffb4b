/- Joined texts: Keep32 Keep32Proof. Conditions: as stated. -/
import Derived.Test.YtlhkojcmcmkmaaaGreatRows
import Derived.Test.YtlhkojcmcmkmaaaGreatJB32
import Derived.Test.YtlhkojcmcmkmaaaGreatJCaseIn
import Derived.Test.YtlhkojcmcmkmaaaGreatJSame32
namespace Go.Proofs.YtlhkojcmcmkmaaaGreat
open Go.RowKit Go.Sort Go.Shelf
theorem InOk.sizesK {I:NetIn} (h:InOk I) (he:I.err = 0) : I.lines.length≤256∧I.next.insured.length≤54∧I.next.taken.length≤128:=by
 obtain ⟨hp,_,_,_,_,_,_,_,ha2⟩:=NetIn.err_inv he
 obtain ⟨_,_,k3,k4⟩:=addE_inv ha2
 refine ⟨(h.slip he).len,?_,?_⟩
 ·
  have h1:=h.y.len
  have h2:=h.y.p1
  show (I.y.insured++[I.insured]).length≤54
  rw [List.length_append]
  simp only [List.length_cons,List.length_nil]
  omega
 ·
  show I.taken2.length≤128
  have:I.taken2 = addO I.taken1 I.after:=k4
  rw [this]
  exact (rec_size k3).1
set_option maxRecDepth 100000 in
set_option maxHeartbeats 8000000 in
theorem keeps32_walk (B:Option Addr) (lcap:Nat) (l:List Int) (w:World) (hI:SliceOf encI 1 w w.heap.size B l) (hIl:l.length≤9223372036854775807) (hIb : ∀ x ∈ l,I64 x) :
  Calls Tryz.prog 8 #[.slice B l.length lcap] w fun e w'=>e = .returned (.bool true)∧RowKit.Below w.heap.size w w':=by
 go_enter Tryz.func8,Tryz.ntmps8
 go_wp2_with fail
 refine (new_any B l lcap _ hI hIl hIb).mono ?_
 rintro e w0 ⟨rfl,hdk,hb0⟩
 clear hIb hI
 go_wp2_with fail
 refine (case_any _ 0 0 (by omega) (by omega) _ (by omega) hdk).mono ?_
 rintro e w1 ⟨rm,pm,ym,Ak,kc,kept,first,E,ec,es,rfl,hcg,_,hRi,hPi,hYi,hKi,hEi,hd1,hg1⟩
 have HCG:=Lib.hid hcg
 have hb1:RowKit.Below w.heap.size w w1:=bel_only hb0 hg1 (fun q e=>by injection e; omega)
 clear hcg hdk hg1 hd1 hb0
 go_upto_region 2 with (refine wpList_store_blk rfl _ _ _ rfl rfl w1.heap.size rfl rfl (Blk.new w1 55 #[.slice none 0 0,.slice none 0 0,.int .i64 0,.slice none 0 0,.int .i64 0,.int .i64 0,.int .i64 0,.int .i64 0,.slice none 0 0,.int .i64 0,.int .i64 0,.int .i64 0,.int .i64 0,.int .i64 0,.int .i64 0,.int .i64 0,.int .i64 0,.slice none 0 0,.slice none 0 0,.slice none 0 0,.int .i64 0,.int .i64 0,.int .i64 0,.slice none 0 0,.slice none 0 0,.slice none 0 0,.bool false,.slice none 0 0]) rfl sizeCase rfl ?_; intro w2 hX2 hg2)
 have hb2:RowKit.Below w1.heap.size w1 w2:=(below_new w1 (.cells #[.slice none 0 0,.slice none 0 0,.int .i64 0,.slice none 0 0,.int .i64 0,.int .i64 0,.int .i64 0,.int .i64 0,.slice none 0 0,.int .i64 0,.int .i64 0,.int .i64 0,.int .i64 0,.int .i64 0,.int .i64 0,.int .i64 0,.int .i64 0,.slice none 0 0,.slice none 0 0,.slice none 0 0,.int .i64 0,.int .i64 0,.int .i64 0,.slice none 0 0,.slice none 0 0,.slice none 0 0,.bool false,.slice none 0 0] 55)).trans (only_below hg2 (by rw [World.size_alloc]; omega) (fun q e=>by injection e; omega))
 have hRi2:=hRi.adv hb2
 have hPi2:=hPi.adv hb2
 have hYi2:=hYi.adv hb2
 have hKi2:=hKi.adv hb2
 have hEi2:=hEi.adv hb2
 have hbw2:=bel_adv hb1 hb2
 clear hRi hPi hYi hKi hEi hb2 hg2 hb1
 generalize w1.heap.size = g at *
 have hel:es.length≤1000000:=by have:=HCG.out.e.2; omega
 have HPO:=Lib.hid (compute_ok rm pm ym Ak E kc ec kept es true w2 hRi2 hPi2 hYi2 hKi2 hEi2 hel (HCG.out.in_ true))
 have HIN:=Lib.hid (HCG.out.in_ true)
 have HSEC:Hid ((mkI rm pm ym kept true es).err = 0→∀ W A' cap',RowKit.Below w2.heap.size w2 W→SliceOf encE 2 W W.heap.size A' (keptL (mkI rm pm ym kept true es).lines)→Calls Tryz.prog 21 #[.agg #[.slice rm.Aw rm.ws.length rm.cw,.slice rm.As rm.ss.length rm.cs,.int .i64 rm.tm.t.method,.slice rm.tm.Ab rm.tm.t.brs.length rm.tm.cb,.int .i64 rm.tm.t.allowance,.int .i64 rm.tm.t.credit,.int .i64 rm.tm.t.unit,.int .i64 rm.tm.t.mode,.slice rm.tm.Ar rm.tm.t.rows.length rm.tm.cr,.int .i64 rm.count,.int .i64 rm.sh.fixed,.int .i64 rm.sh.dependent,.int .i64 rm.sh.lower,.int .i64 rm.sh.share,.int .i64 rm.sh.top,.int .i64 rm.recover],.agg #[.int .i64 pm.deps,.slice pm.Ad pm.ds.length pm.cd,.slice pm.Ao pm.os.length pm.co,.slice pm.Ae pm.es.length pm.ce],.agg #[.int .i64 ym.periods,.int .i64 ym.income,.int .i64 ym.withheld,.slice ym.Ai ym.ins.length ym.ci,.slice ym.At ym.taken.length ym.ct],.slice A' (keptL (mkI rm pm ym kept true es).lines).length cap',.bool false,.slice E es.length ec] W (SlipPost (keepI (mkI rm pm ym kept true es) ((mkI rm pm ym kept true es).attached.filter nz)) W)):=fun he W A' cap' hb hS=>by
  have hk:=keep_ok (HCG.out.in_ true) he rfl
  rw [← keptL_lines] at hk ⊢
  exact compute_ok rm pm ym A' E cap' ec _ es false W (hRi2.adv hb) (hPi2.adv hb) (hYi2.adv hb) hS (hEi2.adv hb) hel hk
 unfold RulesM.val PersonM.val YearM.val at HPO
 have x0:=hX2.cell 0
 have x1:=hX2.cell 1
 have x2:=hX2.cell 2
 have x3:=hX2.cell 3
 have x4:=hX2.cell 4
 have x5:=hX2.cell 5
 have x6:=hX2.cell 6
 have x7:=hX2.cell 7
 have x8:=hX2.cell 8
 have x9:=hX2.cell 9
 have x10:=hX2.cell 10
 have x11:=hX2.cell 11
 have x12:=hX2.cell 12
 have x13:=hX2.cell 13
 have x14:=hX2.cell 14
 have x15:=hX2.cell 15
 have x16:=hX2.cell 16
 have x17:=hX2.cell 17
 have x18:=hX2.cell 18
 have x19:=hX2.cell 19
 have x20:=hX2.cell 20
 have x21:=hX2.cell 21
 have x22:=hX2.cell 22
 have x23:=hX2.cell 23
 have x24:=hX2.cell 24
 have x25:=hX2.cell 25
 have x26:=hX2.cell 26
 have x27:=hX2.cell 27
 simp only [nqg,nqh,nqi] at x0 x1 x2 x3 x4 x5 x6 x7 x8 x9 x10 x11 x12 x13 x14 x15 x16 x17 x18 x19 x20 x21 x22 x23 x24 x25 x26 x27
 clear hRi2 hPi2 hYi2 hKi2 hEi2
 go_wp2_with fail
 refine HPO.out.mono ?_
 clear HPO x0 x1 x2 x3 x4 x5 x6 x7 x8 x9 x10 x11 x12 x13 x14 x15 x16 x17 x18 x19 x20 x21 x22 x23 x24 x25 x26 x27
 have hfi:(mkI rm pm ym kept true es).first = true:=rfl
 rintro e w3 (⟨herr,A,c,Ai,ci,At,ct,rfl,hSL,hSi,hSt,hb3⟩ | ⟨herr,rfl,hb3⟩)
 ·
  have HSE:=Lib.hid (HSEC.out herr)
  clear HSEC
  obtain ⟨z1,z2,z3⟩:=HIN.out.sizesK herr
  have hX3:=hX2.adv hb3
  have HHE:=Lib.hid herr
  generalize mkI rm pm ym kept true es = I at *
  have hb4:=bel_alloc (below_new w3 (.cells #[.int .i64 I.b.g,.int .i64 I.b.c,.int .i64 I.b.t,.int .i64 I.b.i,.int .i64 I.b.a,.int .i64 I.legal,.slice A I.lines.length c] 27)) (.cells #[.int .i64 I.next.periods,.int .i64 I.next.income,.int .i64 I.next.withheld,.slice Ai I.next.insured.length ci,.slice At I.next.taken.length ct] 53)
  have hX4:=(Blk.new w3 27 #[.int .i64 I.b.g,.int .i64 I.b.c,.int .i64 I.b.t,.int .i64 I.b.i,.int .i64 I.b.a,.int .i64 I.legal,.slice A I.lines.length c]).alloc (.cells #[.int .i64 I.next.periods,.int .i64 I.next.income,.int .i64 I.next.withheld,.slice Ai I.next.insured.length ci,.slice At I.next.taken.length ct] 53)
  have hY4:=Blk.new (w3.alloc (.cells #[.int .i64 I.b.g,.int .i64 I.b.c,.int .i64 I.b.t,.int .i64 I.b.i,.int .i64 I.b.a,.int .i64 I.legal,.slice A I.lines.length c] 27)) 53 #[.int .i64 I.next.periods,.int .i64 I.next.income,.int .i64 I.next.withheld,.slice Ai I.next.insured.length ci,.slice At I.next.taken.length ct]
  rw [World.size_alloc] at hY4
  have hS4:=hSL.adv hb4
  have hi4:=hSi.adv hb4
  have ht4:=hSt.adv hb4
  have hC4:=hX3.adv hb4
  have hb24:=bel_adv hb3 hb4
  have hbw4:=bel_adv (bel_adv hbw2 hb3) hb4
  clear hSL hSi hSt hb3 hbw2 herr hX2 hX3
  go_upto_region 3 with fail
  clear hb4
  generalize World.alloc (w3.alloc _) _ = w4 at hX4 hY4 hbw4 hS4 hi4 ht4 hC4 hb24 ⊢
  generalize w3.heap.size+1 = gy at *
  generalize w3.heap.size = gx at *
  generalize hlsd:I.lines = ls at *
  go_wp2_with fail
  go_loopw [7,8] (fun v i wr=>∃ k:Nat,k≤ls.length∧i = .int .i64 k∧Own encE 2 69 wr w4.heap.size v (keptL (ls.take k))∧RowKit.Below w4.heap.size w4 wr) (fun _ i _=>ls.length - (intOf i).toNat)
  case atStart=>exact ⟨0,by omega,rfl,by simpa [keptL] using Own.nil_ _ _,Below.refl _ _⟩
  case round =>
   rename World=>wr
   obtain ⟨k,hk,rfl,hO,hbr⟩:=hrel
   have hXr:=hX4.adv hbr
   have z6:wr.cell? ⟨gx,6,none⟩ = some (.slice A ls.length c):=hXr.cell 6
   have hlx:=hX4.lt
   by_cases hlt:k < ls.length
   ·
    obtain ⟨bb,off,hAe,hbb,hc⟩:=hS4.at_ hlt
    have c0:=hc 0 _ rfl
    have c1:=hc 1 _ rfl
    have c2:=hc 2 _ rfl
    simp only [Nat.add_zero] at c0
    have hki:(k:Int) < (ls.length:Int):=by omega
    have HT:=Lib.hid (keptL_take ls k hlt)
    have hkl:(keptL (ls.take k)).length≤256:=by
     have:=List.length_filter_le (fun x:LineT=>decide (x.kind = 7)) (ls.take k)
     simp only [keptL,List.length_map,List.length_take] at this ⊢
     omega
    clear hc
    rw [hAe] at z6
    generalize ls[k] = x at *
    have d0:=(hbr.cell (p:=⟨bb,off+k * 3,none⟩) (by exact hbb)).trans c0
    by_cases hk7:x.kind = 7
    ·
     have hkb:(x.kind == 7) = true:=by simp [hk7]
     have HT2:Hid (keptL (ls.take (k+1)) = keptL (ls.take k)++[⟨x.code,x.amount⟩]):=by rw [Hid,HT.out,if_pos hk7]
     have hbr':=hbr
     have hr7:=fun q hq=>(hO.block_lt (g:=q) hq).1
     clear HT
     rw [hk7] at d0
     go_upto_region 10 with fail
     refine M3.wp_region_sel (C:=fun w'=>RowKit.Below w4.heap.size w4 w') (stable_below _ _ (Nat.le_refl _)) hbr (aE:=?aE) [0,1,2,3,4,5,6,7,8,9,10,11,12,13] 3 (by kernel_rfl) (by kernel_rfl) rfl (by kernel_rfl) (by kernel_rfl) (by rfl) ?H ?M
     case H =>
      intro F hF inst
      simp only [M3.opsAt,List.getElem?_toArray,List.getElem?_cons_zero,List.getElem?_cons_succ]
      have e6:∀ p:BwC (fun w'=>RowKit.Below w4.heap.size w4 w') F,p.w'.cell? ⟨gx,6,none⟩ = some (.slice (some ⟨bb,off,none⟩) ls.length c):=fun p=>(p.h.cell (p:=⟨gx,6,none⟩) hlx).trans (by rw [← hAe]; exact hX4.cell 6)
      have e1:∀ p:BwC (fun w'=>RowKit.Below w4.heap.size w4 w') F,p.w'.cell? ⟨bb,off+k * 3+1,none⟩ = some (.string x.code):=fun p=>(p.h.cell (p:=⟨bb,off+k * 3+1,none⟩) (by exact hbb)).trans c1
      have e2:∀ p:BwC (fun w'=>RowKit.Below w4.heap.size w4 w') F,p.w'.cell? ⟨bb,off+k * 3+2,none⟩ = some (.int .i64 x.amount):=fun p=>(p.h.cell (p:=⟨bb,off+k * 3+2,none⟩) (by exact hbb)).trans c2
      repeat (first | go_big_quiet_step (fail))
      refine wpQuiet_nil ?_
      rfl
     case M =>
      intro Q0 hQ0
      refine M3.mix_step [14] (by kernel_rfl) (by simp) ?_
      intro wa hCa hba i hi
      simp only [nqj,nqk,or_false] at hi
      subst hi
      have hWn:=below_new wa (.cells #[.string x.code,.int .i64 x.amount] 69)
      refine M3.mix_val (.slice (some ⟨wa.heap.size,0,none⟩) 1 1) (wa.alloc (.cells #[.string x.code,.int .i64 x.amount] 69)) rfl rfl (by go_simp) ⟨stable_below _ _ (Nat.le_refl _) _ _ hCa hWn,?_⟩
      simp only [Act.put,nqa,nqb,nqc,nqd,nqe,nqf]
      have hE2:=SliceOf.new encE_len wa [⟨x.code,x.amount⟩] #[.string x.code,.int .i64 x.amount] 69 rfl
      rw [← World.size_alloc wa (.cells #[.string x.code,.int .i64 x.amount] 69)] at hE2
      have hX2:=(hO.adv hba).adv hWn
      refine M3.mix_step [15] (by kernel_rfl) (by simp) ?_
      intro wb hCb hbb' i hi
      simp only [nqj,nqk,or_false] at hi
      subst hi
      have hX3:=hX2.adv hbb'
      have hE3:=hE2.adv hbb'
      have hB3s:=hCb.size
      refine M3.mix_append (.tmp 47) (.tmp 61) 51 1 24 _ infoE Tryz.underlying51 hX3 hE3 encE_len (by omega) rfl encE_one (by simp only [List.length_cons,List.length_nil]; omega) (by omega) (by omega) rfl rfl rfl rfl rfl rfl ?_
      intro v5 w5' hown5 hg5
      have hb6:RowKit.Below w4.heap.size w4 w5':=hCb.trans (only_below hg5 hB3s (fun q hq=>(hX3.block_lt hq).1))
      refine ⟨hb6,?_⟩
      simp only [Act.put,nqa,nqb,nqc,nqd,nqe,nqf]
      refine M3.mix_step [16] (by kernel_rfl) (by simp) ?_
      intro w6' hC6 hb6' i hi
      simp only [nqj,nqk,or_false] at hi
      subst hi
      refine M3.mix_val v5 w6' rfl rfl rfl ⟨hC6,?_⟩
      simp only [Act.put,nqa,nqb,nqc,nqd,nqe,nqf]
      refine M3.mix_end (by kernel_rfl) ?_
      intro w8 hC8 hb8
      refine hQ0 _ _ ?_
      have HO8:=Lib.hid ((hown5.adv hb6').adv hb8)
      have HB8:=Lib.hid hC8
      clear hown5 hX3 hE3 hX2 hE2 hg5
      go_wp2_with fail
      go_roundw
      case rel =>
       have hfin:∃ k':Nat,k'≤ls.length∧Value.int .i64 ((k:Int)+1) = .int .i64 (k':Int)∧Own encE 2 69 w8 w4.heap.size v5 (keptL (ls.take k'))∧RowKit.Below w4.heap.size w4 w8:=⟨k+1,by omega,by go_num,by rw [HT2.out]; exact HO8.out,HB8.out⟩
       first | exact hfin | ((repeat apply Exists.intro); exact ⟨hfin,rfl⟩)
      case measure=>simp [intOf]; omega
    ·
     have hkb:(x.kind == 7) = false:=by simp [hk7]
     have HT2:Hid (keptL (ls.take (k+1)) = keptL (ls.take k)):=by rw [Hid,HT.out,if_neg hk7,List.append_nil]
     clear HT
     go_wp2
     go_roundw
     case rel =>
      have hfin:∃ k':Nat,k'≤ls.length∧Value.int .i64 ((k:Int)+1) = .int .i64 (k':Int)∧Own encE 2 69 wr w4.heap.size _ (keptL (ls.take k'))∧RowKit.Below w4.heap.size w4 wr:=⟨k+1,by omega,by go_num,by rw [HT2.out]; exact hO,hbr⟩
      first | exact hfin | ((repeat apply Exists.intro); exact ⟨hfin,rfl⟩)
     case measure=>simp [intOf]; omega
   ·
    obtain rfl:k = ls.length:=by omega
    rw [List.take_length] at hO
    obtain ⟨AK,cK,rfl,hSK,_,_,_⟩:=hO.form2 encE_len
    have hCr:=hC4.adv hbr
    have hb2r:=bel_adv hb24 hbr
    have hbwr:=bel_adv hbw4 hbr
    have hXr2:=hX4.adv hbr
    have hYr2:=hY4.adv hbr
    have hSr:=hS4.adv hbr
    have hir:=hi4.adv hbr
    have htr:=ht4.adv hbr
    have HSE2:=Lib.hid (HSE.out wr AK cK hb2r hSK)
    have x0:=hCr.cell 0
    have x1:=hCr.cell 1
    have x2:=hCr.cell 2
    have x3:=hCr.cell 3
    have x4:=hCr.cell 4
    have x5:=hCr.cell 5
    have x6:=hCr.cell 6
    have x7:=hCr.cell 7
    have x8:=hCr.cell 8
    have x9:=hCr.cell 9
    have x10:=hCr.cell 10
    have x11:=hCr.cell 11
    have x12:=hCr.cell 12
    have x13:=hCr.cell 13
    have x14:=hCr.cell 14
    have x15:=hCr.cell 15
    have x16:=hCr.cell 16
    have x17:=hCr.cell 17
    have x18:=hCr.cell 18
    have x19:=hCr.cell 19
    have x20:=hCr.cell 20
    have x21:=hCr.cell 21
    have x22:=hCr.cell 22
    have x23:=hCr.cell 23
    have x24:=hCr.cell 24
    have x25:=hCr.cell 25
    have x26:=hCr.cell 26
    have x27:=hCr.cell 27
    simp only [nqg,nqh,nqi] at x0 x1 x2 x3 x4 x5 x6 x7 x8 x9 x10 x11 x12 x13 x14 x15 x16 x17 x18 x19 x20 x21 x22 x23 x24 x25 x26 x27
    clear hO hSK hC4 hCr hX4 hY4 hS4 hi4 ht4 hbw4 hb24 hXr HSE
    go_wp2_with fail
    refine HSE2.out.mono ?_
    clear HSE2 x0 x1 x2 x3 x4 x5 x6 x7 x8 x9 x10 x11 x12 x13 x14 x15 x16 x17 x18 x19 x20 x21 x22 x23 x24 x25 x26 x27 z6
    rintro e w5 (⟨_,A',c',Ai',ci',At',ct',rfl,hSL',hSi',hSt',hb5⟩ | ⟨herr',_,_⟩)
    rotate_left
    ·
     exact absurd (keep_err HHE.out) herr'
    rw [keep_lines] at hSL' ⊢
    rw [keep_next] at hSi' hSt' ⊢
    have hbI:(keepI I (I.attached.filter nz)).b = I.b:=rfl
    have hlI:(keepI I (I.attached.filter nz)).legal = I.legal:=rfl
    rw [hbI,hlI]
    rw [hlsd] at hSL' ⊢
    subst hlsd
    have hb6:=bel_alloc (below_new w5 (.cells #[.int .i64 I.b.g,.int .i64 I.b.c,.int .i64 I.b.t,.int .i64 I.b.i,.int .i64 I.b.a,.int .i64 I.legal,.slice A' I.lines.length c'] 27)) (.cells #[.int .i64 I.next.periods,.int .i64 I.next.income,.int .i64 I.next.withheld,.slice Ai' I.next.insured.length ci',.slice At' I.next.taken.length ct'] 53)
    have hX6:=(Blk.new w5 27 #[.int .i64 I.b.g,.int .i64 I.b.c,.int .i64 I.b.t,.int .i64 I.b.i,.int .i64 I.b.a,.int .i64 I.legal,.slice A' I.lines.length c']).alloc (.cells #[.int .i64 I.next.periods,.int .i64 I.next.income,.int .i64 I.next.withheld,.slice Ai' I.next.insured.length ci',.slice At' I.next.taken.length ct'] 53)
    have hY6:=Blk.new (w5.alloc (.cells #[.int .i64 I.b.g,.int .i64 I.b.c,.int .i64 I.b.t,.int .i64 I.b.i,.int .i64 I.b.a,.int .i64 I.legal,.slice A' I.lines.length c'] 27)) 53 #[.int .i64 I.next.periods,.int .i64 I.next.income,.int .i64 I.next.withheld,.slice Ai' I.next.insured.length ci',.slice At' I.next.taken.length ct']
    rw [World.size_alloc] at hY6
    have HS1:=Lib.hid (sameSlip_yes I.b I.legal A A' c c' I.lines _ ((hSr.adv hb5).adv hb6) (hSL'.adv hb6) (by omega))
    have HS2:=Lib.hid (fun W (hb:RowKit.Below _ _ W)=>sameYear_yes I.next.periods I.next.income I.next.withheld Ai Ai' At At' ci ci' ct ct' I.next.insured I.next.taken W (((hir.adv hb5).adv hb6).adv hb) ((hSi'.adv hb6).adv hb) (((htr.adv hb5).adv hb6).adv hb) ((hSt'.adv hb6).adv hb) (by omega) (by omega))
    have hX46:=(hXr2.adv hb5).adv hb6
    have hY46:=(hYr2.adv hb5).adv hb6
    have hbw6:=bel_adv (bel_adv hbwr hb5) hb6
    clear hSr hir htr hSL' hSi' hSt' hXr2 hYr2 hbwr hb5 hb2r hbr hbI hlI
    go_upto_region 12 with fail
    clear hb6
    generalize World.alloc (w5.alloc _) _ = w6 at hX46 hY46 hX6 hY6 hbw6 HS1 HS2 ⊢
    have a0:=hX46.cell 0
    have a1:=hX46.cell 1
    have a2:=hX46.cell 2
    have a3:=hX46.cell 3
    have a4:=hX46.cell 4
    have a5:=hX46.cell 5
    have a6:=hX46.cell 6
    simp only [nqg,nqh,nqi] at a0 a1 a2 a3 a4 a5 a6
    have b0:=hX6.cell 0
    have b1:=hX6.cell 1
    have b2:=hX6.cell 2
    have b3:=hX6.cell 3
    have b4:=hX6.cell 4
    have b5:=hX6.cell 5
    have b6:=hX6.cell 6
    simp only [nqg,nqh,nqi] at b0 b1 b2 b3 b4 b5 b6
    go_wp2_with fail
    refine HS1.out.mono ?_
    rintro e w7 ⟨rfl,hb7⟩
    clear a0 a1 a2 a3 a4 a5 a6 b0 b1 b2 b3 b4 b5 b6 HS1
    have hY47:=hY46.adv hb7
    have hY67:=hY6.adv hb7
    have hbw7:=bel_adv hbw6 hb7
    have a0:=hY47.cell 0
    have a1:=hY47.cell 1
    have a2:=hY47.cell 2
    have a3:=hY47.cell 3
    have a4:=hY47.cell 4
    simp only [nqg,nqh,nqi] at a0 a1 a2 a3 a4
    have b0:=hY67.cell 0
    have b1:=hY67.cell 1
    have b2:=hY67.cell 2
    have b3:=hY67.cell 3
    have b4:=hY67.cell 4
    simp only [nqg,nqh,nqi] at b0 b1 b2 b3 b4
    have HS3:=Lib.hid (HS2.out w7 hb7)
    clear HS2 hX46 hX6 hY46 hY6 hY47 hY67 hbw6 hb7
    go_wp2_with fail
    refine HS3.out.mono ?_
    rintro e w8 ⟨rfl,hb8⟩
    have hbw8:=bel_adv hbw7 hb8
    clear HS3 a0 a1 a2 a3 a4 b0 b1 b2 b3 b4
    go_wp2_with fail
    refine (awake_any _).mono ?_
    rintro e w9 ⟨rfl,hb9⟩
    have hbw9:=bel_adv hbw8 hb9
    go_wp2
    go_ret
    exact ⟨rfl,hbw9⟩
 ·
  generalize (mkI rm pm ym kept true es).err = er at *
  have hner:(er != 0) = true:=by simpa using herr
  have hb4:=bel_alloc (below_new w3 (.cells #[.int .i64 0,.int .i64 0,.int .i64 0,.int .i64 0,.int .i64 0,.int .i64 0,.slice none 0 0] 27)) (.cells #[.int .i64 0,.int .i64 0,.int .i64 0,.slice none 0 0,.slice none 0 0] 53)
  have hbw4:=bel_adv (bel_adv hbw2 hb3) hb4
  clear hX2 hfi HIN HSEC
  go_upto_region 3 with fail
  clear hb4 hb3 hbw2
  generalize World.alloc (w3.alloc _) _ = w4 at hbw4 ⊢
  go_wp2_with fail
  refine (awake_any _).mono ?_
  rintro e w6 ⟨rfl,hb6⟩
  have hbw6:=bel_adv hbw4 hb6
  go_wp2
  go_ret
  exact ⟨rfl,hbw6⟩
end Go.Proofs.YtlhkojcmcmkmaaaGreat
namespace Go.Proofs.YtlhkojcmcmkmaaaGreat.netKeeps
open Go.ChangeShapes Go.WideShapes Go.ChangeAt Go.RowKit
open Go.ChangeMaps (open_string shut_string)
theorem own : ownKnob Tryz.prog.godebug = none:=by kernel_rfl
theorem laidOut : laidOutB Tryz.prog = true:=by kernel_rfl
set_option maxRecDepth 100000 in
theorem lifted (os:Os) (started:os.Started) (H:Type) (enc:TypeId × Value→H) :
  ReturnsInHanded {} Tryz.checked os 8 .any (Rows.netKeepsSpec.pre6 enc Tryz.prog Tryz.f8 Rows.netKeepsRow.domain false) (Rows.netKeepsSpec.post enc Tryz.prog Tryz.f8 false true false false):=by
 refine returnsInHanded_of_change (C:=Tryz.checked) own started (by kernel_rfl) Tryz.func8
  (ChangeSpec.witness6 (enc:=enc) (C:=Tryz.checked) false ⟨#[],#[.slice none 0 0],[]⟩ 8 (by kernel_rfl) (by kernel_rfl) (by kernel_rfl) (by kernel_rfl)) ?_
 intro W base args ds gs before hval0 hW _ _
 have hval:∀ (j:Nat) t v,Tryz.f8.params[j]? = some t→args[j]? = some v→Value.okWide Tryz.prog W .any base t v:=hval0
 have hW':=hW
 obtain ⟨p,q,hA0,hV,rfl,_,_⟩:=hW
 have hA:DataW.TrodAll enc Tryz.prog W 0 (fun _=>true) true Tryz.f8.params.toList args.toList ds p:=hA0
 rw [Tryz.params8] at hA hval
 obtain ⟨v0,vs0,d0,ds0,p0,q0,hargs,rfl,rfl,h0,r0⟩:=trodAll_cons hA
 obtain ⟨rfl,rfl,rfl⟩:=trodAll_nil r0
 obtain rfl:args = #[v0]:=by cases args; simp_all
 obtain ⟨rfl,rfl⟩:=trodVars_none hV
 obtain ⟨a0,len0,cap0,rfl⟩:=okWide_slice Tryz.underlying34 (hval 0 34 v0 rfl rfl)
 have k0:=h0
 have lt0:∀ x ∈ p0,x.block < W.heap.size:=by obtain ⟨m,hm⟩:=k0; exact DataW.trod_lt m _ _ _ hm
 obtain ⟨xs0,rfl,hS0,hX0,hlc0,hcm0⟩:=openI h0
 have hl0:=Nat.le_trans hlc0 hcm0
 clear hA0 hval0
 refine (keeps32_walk a0 cap0 xs0 W hS0 hl0 hX0).mono fun e W' ⟨he,bel⟩=>?_
 subst he
 exact ⟨_,rfl,_,_,_,[],_,[],hW',trodAll_mk1 (shut_bool Tryz.underlying4 _),(trodAll_cons_mk (Below.trod laidOut (by kernel_rfl) (of_decide_eq_true (by kernel_rfl)) k0 bel lt0) trodAll_mk0),rfl,bel.frame _,fun h=>by cases h⟩
theorem t4 : (Rows.netKeepsRow.inPlace == Tryz.prog.inPlace 8) = true:=by kernel_rfl
theorem t5 : (Rows.netKeepsRow.unfollowed == Tryz.prog.unfollowed 8) = true:=by kernel_rfl
theorem t6 : (Rows.netKeepsRow.recurses == Tryz.prog.recurses 8) = true:=by kernel_rfl
theorem t7 : (Rows.netKeepsRow.named == Tryz.prog.varsNamed 8) = true:=by kernel_rfl
theorem t8 : (Rows.netKeepsRow.pinned == Rows.netKeepsRow.pinnedBy) = true:=by kernel_rfl
theorem t9 : (Rows.netKeepsRow.lifted == Tryz.prog.liftsFinal) = true:=by kernel_rfl
theorem tc : joinedFacts Tryz.prog 8 Tryz.f8 Rows.netKeepsSpec Rows.netKeepsRow = true:=by
 unfold joinedFacts
 rw [t4,t5,t6,t7,t8,t9]
 kernel_rfl
theorem tf : Tryz.pinned.checked.prog.funcNamed Rows.netKeepsRow.func = some 8:=by kernel_rfl
theorem over : Rows.netKeepsRow.holds Tryz.pinned (OpenSpec.ofChange Rows.netKeepsSpec) :=
 OpenClaim.holds_of_wide 8 Tryz.f8 rfl rfl rfl rfl rfl rfl rfl ⟨rfl,rfl,rfl,rfl,rfl⟩ rfl rfl rfl rfl rfl tf Tryz.func8 tc
  (of_decide_eq_true (by kernel_rfl)) (by unfold Func.isWrapper; first | (rw [if_pos (by decide +kernel)]; kernel_rfl) | (rw [if_neg (by decide +kernel)]; exact ⟨rfl,rfl⟩))
  (fun os started H enc _=>lifted os started H enc)
theorem proved : Rows.NetKeepsSaid:=over
#print axioms proved
end Go.Proofs.YtlhkojcmcmkmaaaGreat.netKeeps
