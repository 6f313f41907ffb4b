/- Joined texts: P32l. Conditions: as stated. -/
import Derived.Test.YtlhkojcmcmkmaaaGreatJAddD
import Derived.Test.YtlhkojcmcmkmaaaGreatJP31b
import Derived.Test.YtlhkojcmcmkmaaaGreatJCmp0
namespace Go.Proofs.YtlhkojcmcmkmaaaGreat
open Go.RowKit Go.Sort Go.Shelf
theorem Own.setFar {α:Type} {enc:α→List Value} {k:Nat} {e:TypeId} {w w' : World} {base g : Nat} {v:Value} {xs:List α} (h:Own enc k e w base v xs) (hg:w.grownBy w' (some g)) (hne:v.ownBlock ≠ some g) : Own enc k e w' base v xs:=by
 refine World.ownsRow.kept h hg ?_
 cases hv:v.ownBlock with
 | none=>exact .inl rfl
 | some q =>
  right
  intro he
  injection he with he
  exact hne (by rw [hv,he])
theorem Own.neBlk {α:Type} {enc:α→List Value} {k:Nat} {e t : TypeId} {w:World} {base b : Nat} {v:Value} {xs:List α} {cs:Array Value} (h:Own enc k e w base v xs) (hB:Blk w b t cs) (ht:e ≠ t) : v.ownBlock ≠ some b:=by
 rcases h.2 with ⟨rfl,_⟩ | ⟨q,cap,cur,rfl,_,hg,_⟩
 ·
  intro e2; cases e2
 ·
  intro e2
  injection e2 with e2
  simp only at e2
  subst e2
  unfold Blk at hB
  rw [hg] at hB
  injection hB with hB
  injection hB with _ h2
  exact ht h2
def FinPost (w0:World) (c:CalF) (s:CalS) (LN:List LineT) (tk2:List Elem) (er:Int) (e:Ending) (w' : World) : Prop :=
 (er = 0∧∃ A cp Ai ci At ct,e = .returned (.tuple #[.agg #[.int .i64 s.b.g,.int .i64 s.b.c,.int .i64 s.b.t,.int .i64 s.b.i,.int .i64 s.b.a,.int .i64 (s.b.c - s.levies - s.tax),.slice A LN.length cp],.agg #[.int .i64 (c.y.periods+1),.int .i64 (c.y.income+s.income),.int .i64 (c.y.withheld+s.tax),.slice Ai (c.y.ins.length+1) ci,.slice At tk2.length ct],.int .i64 0]) ∧
  SliceOf encL 3 w' w'.heap.size A LN∧SliceOf encI 1 w' w'.heap.size Ai (c.y.ins++[s.insured])∧SliceOf encE 2 w' w'.heap.size At tk2∧(∀ a,A = some a→w0.heap.size≤a.block)∧(∀ a,Ai = some a→w0.heap.size≤a.block)∧(∀ a,At = some a→w0.heap.size≤a.block)∧Below w0.heap.size w0 w') ∨
 (er ≠ 0∧e = .returned (.tuple #[.agg #[.int .i64 0,.int .i64 0,.int .i64 0,.int .i64 0,.int .i64 0,.int .i64 0,.slice none 0 0],.agg #[.int .i64 0,.int .i64 0,.int .i64 0,.slice none 0 0,.slice none 0 0],.int .i64 er])∧Below w0.heap.size w0 w')
def Fin9 (w10:World) (c:CalF) (s:CalS) (T2:Option Addr) (tk2:List Elem) (tc2:Nat) (v:Value) (wz:World) : Prop :=
 ∃ gN A5 c5,v = .pointer (some ⟨gN,0,none⟩)∧w10.heap.size≤gN∧Blk wz gN 53 #[.int .i64 (c.y.periods+1),.int .i64 (c.y.income+s.income),.int .i64 (c.y.withheld+s.tax),.slice A5 (c.y.ins.length+1) c5,.slice T2 tk2.length tc2]∧Own encI 1 3 wz w10.heap.size (.slice A5 (c.y.ins.length+1) c5) (c.y.ins++[s.insured])∧Below w10.heap.size w10 wz
def LineR (w0:World) (g:Nat) (c:CalF) (s:CalS) (lq:List LineT) (w2 wx : World) : Prop:=∃ v',CalI w0 g c { s with lv:=v' } lq wx∧Mv g s.lv w2 v' wx
def lastL (n:Int) : List LineT:=if 0 < n then linesK 9 [⟨⟨#[]⟩,n⟩] else linesK 10 [⟨⟨#[]⟩,-n⟩]
set_option maxRecDepth 100000 in
set_option maxHeartbeats 8000000 in
theorem finishP32 {w0:World} {g:Nat} {c:CalF} {s:CalS} {ls:List LineT} {w:World} (h:CalI w0 g c s ls w) (hy:c.y.In w0) (T F : Option Addr) (tc fc : Nat) (tk af : List Elem) (htv:s.tv = .slice T tk.length tc) (hT:Lst encE 2 w g s.lv T tk) (hav:s.av = .slice F af.length fc) (hF:Lst encE 2 w g s.lv F af)
  (hr:recB tk = true) (haz:∀ x ∈ af,x.code.size≤maxLen) (hal:af.length≤128) (hls:ls.length≤1000) (l0 : -1000000000000≤s.left) (l1:s.left≤1000000000000) (n0:0≤c.y.periods) (n1:c.y.periods≤53) (hyl:c.y.ins.length≤53) (y0:0≤c.y.income) (y1:c.y.income≤999000000000) (u0 : -1000000000000≤c.y.withheld) (u1:c.y.withheld≤1000000000000)
  (i0:0≤s.income) (i1:s.income≤1000000000) (t0 : -1000000000≤s.tax) (t1:s.tax≤1000000000) (v0:0≤s.levies) (v1:s.levies≤12000000000) (c0 : -1000000000≤s.b.c) (c1:s.b.c≤1000000000)
  (tk2:List Elem) (er:Int) (htk2:tk2 = addR tk af) (her:er = addE tk af) (LN:List LineT) (hLN:er = 0→∀ ys:List LineT,ys.Perm (ls++lastL s.left)→ys.Pairwise (fun a b=>lessL b a = false)→ys = LN) :
  Calls Tryz.prog 58 #[.pointer (some ⟨g,0,none⟩)] w (FinPost w0 c s LN tk2 er):=by
 have HAD:Hid (∀ W,Below w.heap.size w W→Calls Tryz.prog 110 #[.slice T tk.length tc,.slice F af.length fc] W (EPostF tk2 er W)):=fun W hb=>by
  rw [htk2,her]
  exact add_anyF T F tc fc tk af W (hT.sl.adv hb) (rec_size hr).2 (by have:=(rec_size hr).1; omega) (hF.sl.adv hb) haz (by omega)
 have HLN:=Lib.hid hLN
 have HY:=Lib.hid (fun W (hb:Below w0.heap.size w0 W)=>(hy.adv hb).ins)
 have zz36:w.cell? ⟨g,36,none⟩ = some (.slice T tk.length tc):=by have:w.cell? ⟨g,36,none⟩ = some s.tv:=h.blk.cell 36; rw [this,htv]
 have zz35:w.cell? ⟨g,35,none⟩ = some (.slice F af.length fc):=by have:w.cell? ⟨g,35,none⟩ = some s.av:=h.blk.cell 35; rw [this,hav]
 have HI:=Lib.hid h
 clear h hy hT hF hr haz htk2 her hLN htv hav
 go_enter Tryz.func58,Tryz.ntmps58
 have hb01:=below_new w (.cells #[.int .i64 0,.int .i64 0,.int .i64 0,.int .i64 0,.int .i64 0,.int .i64 0,.slice none 0 0] 27)
 have hb02:=below_new (w.alloc (.cells #[.int .i64 0,.int .i64 0,.int .i64 0,.int .i64 0,.int .i64 0,.int .i64 0,.slice none 0 0] 27)) (.cells #[.int .i64 0,.int .i64 0,.int .i64 0,.slice none 0 0,.slice none 0 0] 53)
 have hBs:=(Blk.new w 27 #[.int .i64 0,.int .i64 0,.int .i64 0,.int .i64 0,.int .i64 0,.int .i64 0,.slice none 0 0]).alloc (.cells #[.int .i64 0,.int .i64 0,.int .i64 0,.slice none 0 0,.slice none 0 0] 53)
 have hBn:=Blk.new (w.alloc (.cells #[.int .i64 0,.int .i64 0,.int .i64 0,.int .i64 0,.int .i64 0,.int .i64 0,.slice none 0 0] 27)) 53 #[.int .i64 0,.int .i64 0,.int .i64 0,.slice none 0 0,.slice none 0 0]
 have hb0:=bel_adv hb01 hb02
 have hI:=HI.out.adv hb0
 have z35:=(hb0.cell (p:=⟨g,35,none⟩) (by exact HI.out.lt)).trans zz35
 have z36:=(hb0.cell (p:=⟨g,36,none⟩) (by exact HI.out.lt)).trans zz36
 rw [World.size_alloc] at hBn
 have hgs:w.heap.size ≠ g:=by have:=HI.out.lt; omega
 have hgn:w.heap.size+1 ≠ g:=by have:=HI.out.lt; omega
 have hvs:s.lv.ownBlock ≠ some w.heap.size:=fun e=>by have:=(HI.out.row _ e).2; omega
 have hvn:s.lv.ownBlock ≠ some (w.heap.size+1):=fun e=>by have:=(HI.out.row _ e).2; omega
 have hgs0:w0.heap.size≤w.heap.size:=HI.out.bel.size
 have hgn0:w0.heap.size≤w.heap.size+1:=by omega
 have hne:w.heap.size ≠ w.heap.size+1:=by omega
 have HAD2:=Lib.hid (fun W hb=>HAD.out W (bel_adv (w':=W) hb0 hb))
 clear zz35 zz36 hb01 hb02 HAD HI
 go_upto_region 1 with fail
 generalize World.alloc (w.alloc _) _ = W1 at *
 clear hb0
 generalize w.heap.size+1 = gn at *
 generalize w.heap.size = gs at *
 have hlt:=hI.lt
 refine wp_region_call (aE:=?aE1) [0,1,2,3,4,5,6,7] [9,10,11,12,13] 8 110 #[.slice T tk.length tc,.slice F af.length fc] (fun x:Option Addr × Nat=>.tuple #[.slice x.1 tk2.length x.2,.int .i64 er]) ?aJ1 (FrE tk2 W1.heap.size) (by kernel_rfl) (by kernel_rfl) rfl (by kernel_rfl) (by kernel_rfl) (by rfl) (by kernel_rfl) (by kernel_rfl) (by rfl) (by kernel_rfl) (by kernel_rfl) rfl rfl ?H1 ?S1 ?N1 ?R1 ?HC1 ?J1 ?M1
 case H1 =>
  intro F hF inst
  simp only [M3.opsAt,List.getElem?_toArray,List.getElem?_cons_zero,List.getElem?_cons_succ]
  have e35:=BwC.cellB (F:=F) (a:=⟨g,35,none⟩) (by exact hlt) z35
  have e36:=BwC.cellB (F:=F) (a:=⟨g,36,none⟩) (by exact hlt) z36
  repeat (first | go_big_quiet_step (first | fail) | quiet_step (first | fail))
  refine wpQuiet_nil ?_
  rfl
 case S1=>rfl
 case N1=>exact fun _=>by first | rfl | go_simp
 case R1=>exact fun x w1 w2 hx hb=>⟨hx.1.adv hb,hx.2⟩
 case HC1=>exact fun W hb=>(HAD2.out W hb).mono (fun e w2 ⟨A,cap,he,h1,h2,h3,h4,h5⟩=>⟨(A,cap),he,h5,h1,h2,h3,fun a ha=>Nat.le_trans hb.size (h4 a ha)⟩)
 case J1 =>
  intro x F hF inst
  simp only [M3.opsAt,List.getElem?_toArray,List.getElem?_cons_zero,List.getElem?_cons_succ]
  repeat (first | go_big_quiet_step (fail) | quiet_step (fail))
  refine wpQuiet_nil ?_
  rfl
 case M1 =>
  intro x w2 hb2 hx
  try simp only [Act.put,List.setIfInBounds_toArray,List.set_cons_succ,List.set_cons_zero]
  obtain ⟨T2,tc2⟩:=x
  obtain ⟨hS2,_,_,hf2⟩:=hx
  have hL2:=lst_fresh hI hS2 hf2
  have HF2:Hid (∀ a,T2 = some a→w0.heap.size≤a.block):=fun a ha=>by have:=hf2 a ha; have:=hI.bel.size; omega
  have hTs:∀ a,T2 = some a→a.block ≠ gs∧a.block ≠ gn:=fun a ha=>by have:=hf2 a ha; have:=hBs.lt; have:=hBn.lt; exact ⟨by omega,by omega⟩
  have hI2:=hI.adv hb2
  have hBs2:=hBs.adv hb2
  have hBn2:=hBn.adv hb2
  clear hI hBs hBn hb2 hS2 hf2 HAD2 z35 z36 hlt
  by_cases h0:er = 0
  rotate_left
  ·
   have hner:(er != 0) = true:=by simp [h0]
   have hzf:=zeroed_facts hBs2 hBn2 hne
   have hzb:=zeroed_below hI2.bel hgs0 hgn0 w2
   have hne':gn ≠ gs:=fun e=>hne e.symm
   have q0:=hBs2.cell 0
   have q1:=hBs2.cell 1
   have q2:=hBs2.cell 2
   have q3:=hBs2.cell 3
   have q4:=hBs2.cell 4
   have q5:=hBs2.cell 5
   have q6:=hBs2.cell 6
   simp only [nqg,nqh,nqi] at q0 q1 q2 q3 q4 q5 q6
   have r0:=hBn2.cell 0
   have r1:=hBn2.cell 1
   have r2:=hBn2.cell 2
   have r3:=hBn2.cell 3
   have r4:=hBn2.cell 4
   simp only [nqg,nqh,nqi] at r0 r1 r2 r3 r4
   have fq0:=hBs2.frozen 0
   have fq1:=hBs2.frozen 1
   have fq2:=hBs2.frozen 2
   have fq3:=hBs2.frozen 3
   have fq4:=hBs2.frozen 4
   have fq5:=hBs2.frozen 5
   have fq6:=hBs2.frozen 6
   have fr0:=hBn2.frozen 0
   have fr1:=hBn2.frozen 1
   have fr2:=hBn2.frozen 2
   have fr3:=hBn2.frozen 3
   have fr4:=hBn2.frozen 4
   have lq:=hBs2.lt
   have lr:=hBn2.lt
   go_wp2
   clear q0 q1 q2 q3 q4 q5 q6 r0 r1 r2 r3 r4
   change bodyPost _ _ _ _ _ (zeroed w2 gs gn)
   obtain ⟨hzs,hzn⟩:=hzf
   generalize zeroed w2 gs gn = WW at hzs hzn hzb ⊢
   have q0:=hzs.cell 0
   have q1:=hzs.cell 1
   have q2:=hzs.cell 2
   have q3:=hzs.cell 3
   have q4:=hzs.cell 4
   have q5:=hzs.cell 5
   have q6:=hzs.cell 6
   simp only [nqg,nqh,nqi] at q0 q1 q2 q3 q4 q5 q6
   have r0:=hzn.cell 0
   have r1:=hzn.cell 1
   have r2:=hzn.cell 2
   have r3:=hzn.cell 3
   have r4:=hzn.cell 4
   simp only [nqg,nqh,nqi] at r0 r1 r2 r3 r4
   clear hzs hzn
   refine bodyPost_ret (v:=_) (by simp [results,Tryz.results58,go_sem,q0,q1,q2,q3,q4,q5,q6,r0,r1,r2,r3,r4]; rfl) rfl ?_
   exact .inr ⟨h0,rfl,hzb⟩
  subst h0
  have z33:w2.cell? ⟨g,33,none⟩ = some (.int .i64 s.left):=hI2.blk.cell 33
  go_upto_if 31 with fail
  go_cut [4] from 27 to 44 (fun v4 wx=>v4 = .int .i64 0∧LineR w0 g c s (ls++lastL s.left) w2 wx)
  case first =>
   clear hBs2 hBn2 hL2 hTs HLN HY
   by_cases hpos:0 < s.left
   ·
    have HLS:Hid (lastL s.left = linesK 9 [⟨⟨#[]⟩,s.left⟩]):=by rw [Hid,lastL,if_pos hpos]
    go_wp2_with fail
    refine (lineP32 hI2 9 ⟨#[]⟩ s.left (by omega)).mono ?_
    rintro e w3 ⟨rfl,v3,hI3,hm3⟩
    have HR:Hid (LineR w0 g c s (ls++lastL s.left) w2 w3):=⟨v3,by rw [HLS.out]; exact hI3,hm3⟩
    clear hI3 hm3 hI2 z33
    go_wp2_with fail
    go_meet
    exact ⟨rfl,HR.out⟩
   ·
    have HLS:Hid (lastL s.left = linesK 10 [⟨⟨#[]⟩,-s.left⟩]):=by rw [Hid,lastL,if_neg hpos]
    go_wp2_with fail
    refine (lineP32 hI2 10 ⟨#[]⟩ (-s.left) (by omega)).mono ?_
    rintro e w3 ⟨rfl,v3,hI3,hm3⟩
    have HR:Hid (LineR w0 g c s (ls++lastL s.left) w2 w3):=⟨v3,by rw [HLS.out]; exact hI3,hm3⟩
    clear hI3 hm3 hI2 z33
    go_wp2_with fail
    go_meet
    exact ⟨rfl,HR.out⟩
  case rest =>
   rename World=>w3
   obtain ⟨rfl,v3,hI3,hm3⟩:=hcut
   have hBs3:=hBs2.mv hm3 hgs hvs
   have hBn3:=hBn2.mv hm3 hgn hvn
   have h3s:=hm3.far hBs2.lt hvs
   have h3n:=hm3.far hBn2.lt hvn
   have hL3:=hL2.mv hm3
   clear hI2 hBs2 hBn2 hL2 hm3 z33 hvs hvn
   have hll:(ls++lastL s.left).length < 4611686018427387904:=by
    have:(lastL s.left).length≤1:=by
     unfold lastL
     split <;> (simp only [linesK,List.length_map]; exact List.length_filter_le _ _)
    rw [List.length_append]; omega
   obtain ⟨Al,cl,hvl,_,hAlf,_,_⟩:=hI3.own.form2 encL_len
   have HFA:=Lib.hid hAlf
   clear hAlf
   simp only at hvl
   subst hvl
   have hown3:=hI3.own
   simp only at hown3
   have z32:w3.cell? ⟨g,32,none⟩ = some (.slice Al (ls++lastL s.left).length cl):=hI3.blk.cell 32
   have HLN2:=Lib.hid (HLN.out rfl)
   clear HLN
   generalize ls++lastL s.left = lq at *
   go_wp2_with fail
   refine (sortN_any Al cl w0.heap.size lq w3 hown3 hll).mono ?_
   rintro e w10 ⟨rfl,ys,hp,hsd,hS10,hg10⟩
   have hyl10:=hp.length_eq
   obtain rfl:=HLN2.out ys hp hsd
   have HLQ:Hid (lq.length = ys.length):=hyl10.symm
   have hAl:∀ a,Al = some a→a.block ≠ gs∧a.block ≠ gn:=fun a ha=>by subst ha; exact ⟨fun e=>h3s (congrArg some e),fun e=>h3n (congrArg some e)⟩
   have hB10:=hI3.blk.grown hg10 (fun e=>hI3.far e.symm)
   have hbel10:Below w0.heap.size w0 w10:=bel_only hI3.bel hg10 (fun q hq=>(hI3.row q hq).1)
   have hBs10:=hBs3.grown hg10 (fun e=>h3s e.symm)
   have hBn10:=hBn3.grown hg10 (fun e=>h3n e.symm)
   have hL10:SliceOf encE 2 w10 w10.heap.size T2 tk2:=(hL3.mv (Mv.app (n:=0) hg10 (.inl rfl))).sl
   have hins10:=HY.out w10 hbel10
   clear hI3 hBs3 hBn3 hL3 hown3 hg10 h3s h3n HY HLN2 z32 hp hsd hyl10 hll
   have z23:w10.cell? ⟨g,23,none⟩ = some (.slice c.y.Ai c.y.ins.length c.y.ci):=hB10.cell 23
   go_wp2_with fail
   refine (cloneI_any c.y.Ai c.y.ci c.y.ins w10 hins10 (by omega)).mono ?_
   rintro e w11 ⟨v11,rfl,hO11,hb11⟩
   have hlg:=hB10.lt
   clear z23 hins10
   obtain ⟨A11,c11,hv11,_,_,_,_⟩:=hO11.form2 encI_len
   subst hv11
   have hBB:w10.heap.size≤w10.heap.size:=Nat.le_refl _
   have k20:w10.cell? ⟨g,20,none⟩ = some (.int .i64 c.y.periods):=hB10.cell 20
   have k21:w10.cell? ⟨g,21,none⟩ = some (.int .i64 c.y.income):=hB10.cell 21
   have k22:w10.cell? ⟨g,22,none⟩ = some (.int .i64 c.y.withheld):=hB10.cell 22
   have k37:w10.cell? ⟨g,37,none⟩ = some (.int .i64 s.insured):=hB10.cell 37
   have k40:w10.cell? ⟨g,40,none⟩ = some (.int .i64 s.income):=hB10.cell 40
   have k41:w10.cell? ⟨g,41,none⟩ = some (.int .i64 s.tax):=hB10.cell 41
   go_upto_region 9 with fail
   go_cut [8] from 56 to 90 (fun v8 wx=>Fin9 w10 c s T2 tk2 tc2 v8 wx)
   case first =>
    clear hBs10 hBn10 hL10 hS10 hAl hTs hbel10 hB10
    refine M3.wp_region_sel (C:=fun w'=>Below w10.heap.size w10 w') (stable_below _ _ hBB) hb11 (aE:=?aE) [0,1,2,3,4,5,6,7,8,9,10,11,12,13,14,15,16,17,18,19,20,21,22,23,24,25,26,27,28,29,30,33] 5 (by kernel_rfl) (by kernel_rfl) rfl (by kernel_rfl) (by kernel_rfl) (by rfl) ?H ?M
    case H =>
     intro F hF inst
     simp only [M3.opsAt,List.getElem?_toArray,List.getElem?_cons_zero,List.getElem?_cons_succ]
     have e20:∀ p:BwC (fun w'=>Below w10.heap.size w10 w') F,p.w'.cell? ⟨g,20,none⟩ = some (.int .i64 c.y.periods):=fun p=>(p.h.cell (p:=⟨g,20,none⟩) hlg).trans k20
     have e21:∀ p:BwC (fun w'=>Below w10.heap.size w10 w') F,p.w'.cell? ⟨g,21,none⟩ = some (.int .i64 c.y.income):=fun p=>(p.h.cell (p:=⟨g,21,none⟩) hlg).trans k21
     have e22:∀ p:BwC (fun w'=>Below w10.heap.size w10 w') F,p.w'.cell? ⟨g,22,none⟩ = some (.int .i64 c.y.withheld):=fun p=>(p.h.cell (p:=⟨g,22,none⟩) hlg).trans k22
     have e37:∀ p:BwC (fun w'=>Below w10.heap.size w10 w') F,p.w'.cell? ⟨g,37,none⟩ = some (.int .i64 s.insured):=fun p=>(p.h.cell (p:=⟨g,37,none⟩) hlg).trans k37
     have e40:∀ p:BwC (fun w'=>Below w10.heap.size w10 w') F,p.w'.cell? ⟨g,40,none⟩ = some (.int .i64 s.income):=fun p=>(p.h.cell (p:=⟨g,40,none⟩) hlg).trans k40
     have e41:∀ p:BwC (fun w'=>Below w10.heap.size w10 w') F,p.w'.cell? ⟨g,41,none⟩ = some (.int .i64 s.tax):=fun p=>(p.h.cell (p:=⟨g,41,none⟩) hlg).trans k41
     repeat (first | go_big_quiet_step (fail))
     refine wpQuiet_nil ?_
     rfl
    case M =>
     intro Q0 hQ0
     refine M3.mix_step [31,35] (by kernel_rfl) (by simp) ?_
     intro a1 hC1 hb1 i hi
     simp only [nqj,nqk,or_false] at hi
     have hO1:=hO11.adv hb1
     rcases hi with rfl | rfl
     ·
      have hWn1:=below_new a1 (.cells #[.int .i64 s.insured] 3)
      refine M3.mix_val (.slice (some ⟨a1.heap.size,0,none⟩) 1 1) (a1.alloc (.cells #[.int .i64 s.insured] 3)) rfl rfl (by go_simp) ⟨stable_below _ _ hBB _ _ hC1 hWn1,?_⟩
      simp only [Act.put,nqa,nqb,nqc,nqd,nqe,nqf]
      have hE1:=SliceOf.new encI_len a1 [s.insured] #[.int .i64 s.insured] 3 rfl
      rw [← World.size_alloc a1 (.cells #[.int .i64 s.insured] 3)] at hE1
      have hO1n:=hO1.adv hWn1
      refine M3.mix_step [32,35] (by kernel_rfl) (by simp) ?_
      intro a2 hC2 hb2 i hi
      simp only [nqj,nqk,or_false] at hi
      have hO2:=hO1n.adv hb2
      have hE2:=hE1.adv hb2
      rcases hi with rfl | rfl
      ·
       have hsz2:=hC2.size
       refine M3.mix_append (.tmp 82) (.tmp 87) 34 1 8 _ infoInt Tryz.underlying34 hO2 hE2 encI_len (by omega) rfl encI_one (by simp only [List.length_cons,List.length_nil]; omega) (by omega) (by omega) rfl rfl rfl rfl rfl rfl ?_
       intro v5 w5 hO5 hg5
       have hC5:Below w10.heap.size w10 w5:=hC2.trans (only_below hg5 hsz2 (fun q hq=>(hO2.block_lt hq).1))
       refine ⟨hC5,?_⟩
       simp only [Act.put,nqa,nqb,nqc,nqd,nqe,nqf]
       obtain ⟨A5,c5,hv5,_,_,_,_⟩:=hO5.form2 encI_len
       subst hv5
       simp only [List.length_append,List.length_cons,List.length_nil,Nat.zero_add] at hO5 ⊢
       refine M3.mix_step [34,35] (by kernel_rfl) (by simp) ?_
       intro a3 hC3 hb3 i hi
       simp only [nqj,nqk,or_false] at hi
       have hO3:=hO5.adv hb3
       rcases hi with rfl | rfl
       ·
        refine M3.mix_val (.agg #[.int .i64 (c.y.periods+1),.int .i64 (c.y.income+s.income),.int .i64 (c.y.withheld+s.tax),.slice A5 (c.y.ins.length+1) c5,.slice T2 tk2.length tc2]) a3 rfl rfl (by go_simp) ⟨hC3,?_⟩
        simp only [Act.put,nqa,nqb,nqc,nqd,nqe,nqf]
        refine M3.mix_step [35] (by kernel_rfl) (by simp) ?_
        intro a4 hC4 hb4 i hi
        simp only [nqj,nqk,or_false] at hi
        have hO4:=hO3.adv hb4
        subst hi
        have hWn4:=below_new a4 (.cells #[.int .i64 0,.int .i64 0,.int .i64 0,.slice none 0 0,.slice none 0 0] 53)
        refine M3.mix_val (.pointer (some ⟨a4.heap.size,0,none⟩)) (a4.alloc (.cells #[.int .i64 0,.int .i64 0,.int .i64 0,.slice none 0 0,.slice none 0 0] 53)) rfl rfl (by go_simp) ⟨stable_below _ _ hBB _ _ hC4 hWn4,?_⟩
        simp only [Act.put,nqa,nqb,nqc,nqd,nqe,nqf]
        have hge4:w10.heap.size≤a4.heap.size:=by have:=hC4.size; omega
        have hN4:=Blk.new a4 53 #[.int .i64 0,.int .i64 0,.int .i64 0,.slice none 0 0,.slice none 0 0]
        have hO4n:=hO4.adv hWn4
        refine M3.mix_step [36] (by kernel_rfl) (by simp) ?_
        intro a5 hC5 hb5 i hi
        simp only [nqj,nqk,or_false] at hi
        have hO5:=hO4n.adv hb5
        have hN5:=hN4.adv hb5
        subst hi
        have q0:=hN5.cell 0
        have q1:=hN5.cell 1
        have q2:=hN5.cell 2
        have q3:=hN5.cell 3
        have q4:=hN5.cell 4
        simp only [nqg,nqh,nqi] at q0 q1 q2 q3 q4
        have fq0:=hN5.frozen 0
        have fq1:=hN5.frozen 1
        have fq2:=hN5.frozen 2
        have fq3:=hN5.frozen 3
        have fq4:=hN5.frozen 4
        have hlN:=hN5.lt
        have hNf:=put5_blk hN5 (.int .i64 (c.y.periods+1)) (.int .i64 (c.y.income+s.income)) (.int .i64 (c.y.withheld+s.tax)) (.slice A5 (c.y.ins.length+1) c5) (.slice T2 tk2.length tc2)
        have hOf:=hO5.setFar (put5_grown a5 (a4.heap.size) (.int .i64 (c.y.periods+1)) (.int .i64 (c.y.income+s.income)) (.int .i64 (c.y.withheld+s.tax)) (.slice A5 (c.y.ins.length+1) c5) (.slice T2 tk2.length tc2)) (hO5.neBlk hN5 (by decide))
        have hCf:Below w10.heap.size w10 (put5 a5 (a4.heap.size) (.int .i64 (c.y.periods+1)) (.int .i64 (c.y.income+s.income)) (.int .i64 (c.y.withheld+s.tax)) (.slice A5 (c.y.ins.length+1) c5) (.slice T2 tk2.length tc2)):=hC5.trans (only_below (put5_grown a5 (a4.heap.size) (.int .i64 (c.y.periods+1)) (.int .i64 (c.y.income+s.income)) (.int .i64 (c.y.withheld+s.tax)) (.slice A5 (c.y.ins.length+1) c5) (.slice T2 tk2.length tc2)) hC5.size (fun q e=>by injection e; omega))
        refine M3.mix_skip (put5 a5 (a4.heap.size) (.int .i64 (c.y.periods+1)) (.int .i64 (c.y.income+s.income)) (.int .i64 (c.y.withheld+s.tax)) (.slice A5 (c.y.ins.length+1) c5) (.slice T2 tk2.length tc2)) rfl rfl (by unfold put5; go_simp) ⟨hCf,?_⟩
        simp only [Act.put,nqa,nqb,nqc]
        refine M3.mix_end (by kernel_rfl) ?_
        intro wz hCz hbz
        refine hQ0 _ _ ?_
        have HFIN:Hid (Fin9 w10 c s T2 tk2 tc2 (.pointer (some ⟨a4.heap.size,0,none⟩)) wz):=⟨_,A5,c5,rfl,hge4,hNf.adv hbz,hOf.adv hbz,hCz⟩
        go_wp2_with fail
        go_meet
        exact HFIN.out
       ·
        have hWn3:=below_new a3 (.cells #[.int .i64 0,.int .i64 0,.int .i64 0,.slice none 0 0,.slice none 0 0] 53)
        refine M3.mix_val (.pointer (some ⟨a3.heap.size,0,none⟩)) (a3.alloc (.cells #[.int .i64 0,.int .i64 0,.int .i64 0,.slice none 0 0,.slice none 0 0] 53)) rfl rfl (by go_simp) ⟨stable_below _ _ hBB _ _ hC3 hWn3,?_⟩
        simp only [Act.put,nqa,nqb,nqc,nqd,nqe,nqf]
        have hge3:w10.heap.size≤a3.heap.size:=by have:=hC3.size; omega
        have hN3:=Blk.new a3 53 #[.int .i64 0,.int .i64 0,.int .i64 0,.slice none 0 0,.slice none 0 0]
        have hO3n:=hO3.adv hWn3
        refine M3.mix_step [34] (by kernel_rfl) (by simp) ?_
        intro a6 hC6 hb6 i hi
        simp only [nqj,nqk,or_false] at hi
        have hO6:=hO3n.adv hb6
        have hN6:=hN3.adv hb6
        subst hi
        refine M3.mix_val (.agg #[.int .i64 (c.y.periods+1),.int .i64 (c.y.income+s.income),.int .i64 (c.y.withheld+s.tax),.slice A5 (c.y.ins.length+1) c5,.slice T2 tk2.length tc2]) a6 rfl rfl (by go_simp) ⟨hC6,?_⟩
        simp only [Act.put,nqa,nqb,nqc,nqd,nqe,nqf]
        refine M3.mix_step [36] (by kernel_rfl) (by simp) ?_
        intro a7 hC7 hb7 i hi
        simp only [nqj,nqk,or_false] at hi
        have hO7:=hO6.adv hb7
        have hN7:=hN6.adv hb7
        subst hi
        have q0:=hN7.cell 0
        have q1:=hN7.cell 1
        have q2:=hN7.cell 2
        have q3:=hN7.cell 3
        have q4:=hN7.cell 4
        simp only [nqg,nqh,nqi] at q0 q1 q2 q3 q4
        have fq0:=hN7.frozen 0
        have fq1:=hN7.frozen 1
        have fq2:=hN7.frozen 2
        have fq3:=hN7.frozen 3
        have fq4:=hN7.frozen 4
        have hlN:=hN7.lt
        have hNf:=put5_blk hN7 (.int .i64 (c.y.periods+1)) (.int .i64 (c.y.income+s.income)) (.int .i64 (c.y.withheld+s.tax)) (.slice A5 (c.y.ins.length+1) c5) (.slice T2 tk2.length tc2)
        have hOf:=hO7.setFar (put5_grown a7 (a3.heap.size) (.int .i64 (c.y.periods+1)) (.int .i64 (c.y.income+s.income)) (.int .i64 (c.y.withheld+s.tax)) (.slice A5 (c.y.ins.length+1) c5) (.slice T2 tk2.length tc2)) (hO7.neBlk hN7 (by decide))
        have hCf:Below w10.heap.size w10 (put5 a7 (a3.heap.size) (.int .i64 (c.y.periods+1)) (.int .i64 (c.y.income+s.income)) (.int .i64 (c.y.withheld+s.tax)) (.slice A5 (c.y.ins.length+1) c5) (.slice T2 tk2.length tc2)):=hC7.trans (only_below (put5_grown a7 (a3.heap.size) (.int .i64 (c.y.periods+1)) (.int .i64 (c.y.income+s.income)) (.int .i64 (c.y.withheld+s.tax)) (.slice A5 (c.y.ins.length+1) c5) (.slice T2 tk2.length tc2)) hC7.size (fun q e=>by injection e; omega))
        refine M3.mix_skip (put5 a7 (a3.heap.size) (.int .i64 (c.y.periods+1)) (.int .i64 (c.y.income+s.income)) (.int .i64 (c.y.withheld+s.tax)) (.slice A5 (c.y.ins.length+1) c5) (.slice T2 tk2.length tc2)) rfl rfl (by unfold put5; go_simp) ⟨hCf,?_⟩
        simp only [Act.put,nqa,nqb,nqc]
        refine M3.mix_end (by kernel_rfl) ?_
        intro wz hCz hbz
        refine hQ0 _ _ ?_
        have HFIN:Hid (Fin9 w10 c s T2 tk2 tc2 (.pointer (some ⟨a3.heap.size,0,none⟩)) wz):=⟨_,A5,c5,rfl,hge3,hNf.adv hbz,hOf.adv hbz,hCz⟩
        go_wp2_with fail
        go_meet
        exact HFIN.out
      ·
       have hWn2:=below_new a2 (.cells #[.int .i64 0,.int .i64 0,.int .i64 0,.slice none 0 0,.slice none 0 0] 53)
       refine M3.mix_val (.pointer (some ⟨a2.heap.size,0,none⟩)) (a2.alloc (.cells #[.int .i64 0,.int .i64 0,.int .i64 0,.slice none 0 0,.slice none 0 0] 53)) rfl rfl (by go_simp) ⟨stable_below _ _ hBB _ _ hC2 hWn2,?_⟩
       simp only [Act.put,nqa,nqb,nqc,nqd,nqe,nqf]
       have hge2:w10.heap.size≤a2.heap.size:=by have:=hC2.size; omega
       have hN2:=Blk.new a2 53 #[.int .i64 0,.int .i64 0,.int .i64 0,.slice none 0 0,.slice none 0 0]
       have hO2n:=hO2.adv hWn2
       have hE2n:=hE2.adv hWn2
       refine M3.mix_step [32] (by kernel_rfl) (by simp) ?_
       intro a8 hC8 hb8 i hi
       simp only [nqj,nqk,or_false] at hi
       have hO8:=hO2n.adv hb8
       have hE8:=hE2n.adv hb8
       have hN8:=hN2.adv hb8
       subst hi
       have hsz8:=hC8.size
       refine M3.mix_append (.tmp 82) (.tmp 87) 34 1 8 _ infoInt Tryz.underlying34 hO8 hE8 encI_len (by omega) rfl encI_one (by simp only [List.length_cons,List.length_nil]; omega) (by omega) (by omega) rfl rfl rfl rfl rfl rfl ?_
       intro v5 w5 hO5 hg5
       have hC5:Below w10.heap.size w10 w5:=hC8.trans (only_below hg5 hsz8 (fun q hq=>(hO8.block_lt hq).1))
       refine ⟨hC5,?_⟩
       simp only [Act.put,nqa,nqb,nqc,nqd,nqe,nqf]
       obtain ⟨A5,c5,hv5,_,_,_,_⟩:=hO5.form2 encI_len
       subst hv5
       simp only [List.length_append,List.length_cons,List.length_nil,Nat.zero_add] at hO5 ⊢
       have hNg8:=hN8.grown hg5 (fun e=>hO8.neBlk hN8 (by decide) e.symm)
       refine M3.mix_step [34] (by kernel_rfl) (by simp) ?_
       intro a9 hC9 hb9 i hi
       simp only [nqj,nqk,or_false] at hi
       have hO9:=hO5.adv hb9
       have hN9:=hNg8.adv hb9
       subst hi
       refine M3.mix_val (.agg #[.int .i64 (c.y.periods+1),.int .i64 (c.y.income+s.income),.int .i64 (c.y.withheld+s.tax),.slice A5 (c.y.ins.length+1) c5,.slice T2 tk2.length tc2]) a9 rfl rfl (by go_simp) ⟨hC9,?_⟩
       simp only [Act.put,nqa,nqb,nqc,nqd,nqe,nqf]
       refine M3.mix_step [36] (by kernel_rfl) (by simp) ?_
       intro a10 hC10 hb10 i hi
       simp only [nqj,nqk,or_false] at hi
       have hO10:=hO9.adv hb10
       have hN10:=hN9.adv hb10
       subst hi
       have q0:=hN10.cell 0
       have q1:=hN10.cell 1
       have q2:=hN10.cell 2
       have q3:=hN10.cell 3
       have q4:=hN10.cell 4
       simp only [nqg,nqh,nqi] at q0 q1 q2 q3 q4
       have fq0:=hN10.frozen 0
       have fq1:=hN10.frozen 1
       have fq2:=hN10.frozen 2
       have fq3:=hN10.frozen 3
       have fq4:=hN10.frozen 4
       have hlN:=hN10.lt
       have hNf:=put5_blk hN10 (.int .i64 (c.y.periods+1)) (.int .i64 (c.y.income+s.income)) (.int .i64 (c.y.withheld+s.tax)) (.slice A5 (c.y.ins.length+1) c5) (.slice T2 tk2.length tc2)
       have hOf:=hO10.setFar (put5_grown a10 (a2.heap.size) (.int .i64 (c.y.periods+1)) (.int .i64 (c.y.income+s.income)) (.int .i64 (c.y.withheld+s.tax)) (.slice A5 (c.y.ins.length+1) c5) (.slice T2 tk2.length tc2)) (hO10.neBlk hN10 (by decide))
       have hCf:Below w10.heap.size w10 (put5 a10 (a2.heap.size) (.int .i64 (c.y.periods+1)) (.int .i64 (c.y.income+s.income)) (.int .i64 (c.y.withheld+s.tax)) (.slice A5 (c.y.ins.length+1) c5) (.slice T2 tk2.length tc2)):=hC10.trans (only_below (put5_grown a10 (a2.heap.size) (.int .i64 (c.y.periods+1)) (.int .i64 (c.y.income+s.income)) (.int .i64 (c.y.withheld+s.tax)) (.slice A5 (c.y.ins.length+1) c5) (.slice T2 tk2.length tc2)) hC10.size (fun q e=>by injection e; omega))
       refine M3.mix_skip (put5 a10 (a2.heap.size) (.int .i64 (c.y.periods+1)) (.int .i64 (c.y.income+s.income)) (.int .i64 (c.y.withheld+s.tax)) (.slice A5 (c.y.ins.length+1) c5) (.slice T2 tk2.length tc2)) rfl rfl (by unfold put5; go_simp) ⟨hCf,?_⟩
       simp only [Act.put,nqa,nqb,nqc]
       refine M3.mix_end (by kernel_rfl) ?_
       intro wz hCz hbz
       refine hQ0 _ _ ?_
       have HFIN:Hid (Fin9 w10 c s T2 tk2 tc2 (.pointer (some ⟨a2.heap.size,0,none⟩)) wz):=⟨_,A5,c5,rfl,hge2,hNf.adv hbz,hOf.adv hbz,hCz⟩
       go_wp2_with fail
       go_meet
       exact HFIN.out
     ·
      have hWn1:=below_new a1 (.cells #[.int .i64 0,.int .i64 0,.int .i64 0,.slice none 0 0,.slice none 0 0] 53)
      refine M3.mix_val (.pointer (some ⟨a1.heap.size,0,none⟩)) (a1.alloc (.cells #[.int .i64 0,.int .i64 0,.int .i64 0,.slice none 0 0,.slice none 0 0] 53)) rfl rfl (by go_simp) ⟨stable_below _ _ hBB _ _ hC1 hWn1,?_⟩
      simp only [Act.put,nqa,nqb,nqc,nqd,nqe,nqf]
      have hge1:w10.heap.size≤a1.heap.size:=by have:=hC1.size; omega
      have hN1:=Blk.new a1 53 #[.int .i64 0,.int .i64 0,.int .i64 0,.slice none 0 0,.slice none 0 0]
      have hO1n:=hO1.adv hWn1
      refine M3.mix_step [31] (by kernel_rfl) (by simp) ?_
      intro a11 hC11 hb11 i hi
      simp only [nqj,nqk,or_false] at hi
      have hO11:=hO1n.adv hb11
      have hN11:=hN1.adv hb11
      subst hi
      have hWn11:=below_new a11 (.cells #[.int .i64 s.insured] 3)
      refine M3.mix_val (.slice (some ⟨a11.heap.size,0,none⟩) 1 1) (a11.alloc (.cells #[.int .i64 s.insured] 3)) rfl rfl (by go_simp) ⟨stable_below _ _ hBB _ _ hC11 hWn11,?_⟩
      simp only [Act.put,nqa,nqb,nqc,nqd,nqe,nqf]
      have hE11:=SliceOf.new encI_len a11 [s.insured] #[.int .i64 s.insured] 3 rfl
      rw [← World.size_alloc a11 (.cells #[.int .i64 s.insured] 3)] at hE11
      have hO11n:=hO11.adv hWn11
      have hN11n:=hN11.adv hWn11
      refine M3.mix_step [32] (by kernel_rfl) (by simp) ?_
      intro a12 hC12 hb12 i hi
      simp only [nqj,nqk,or_false] at hi
      have hO12:=hO11n.adv hb12
      have hN12:=hN11n.adv hb12
      have hE12:=hE11.adv hb12
      subst hi
      have hsz12:=hC12.size
      refine M3.mix_append (.tmp 82) (.tmp 87) 34 1 8 _ infoInt Tryz.underlying34 hO12 hE12 encI_len (by omega) rfl encI_one (by simp only [List.length_cons,List.length_nil]; omega) (by omega) (by omega) rfl rfl rfl rfl rfl rfl ?_
      intro v5 w5 hO5 hg5
      have hC5:Below w10.heap.size w10 w5:=hC12.trans (only_below hg5 hsz12 (fun q hq=>(hO12.block_lt hq).1))
      refine ⟨hC5,?_⟩
      simp only [Act.put,nqa,nqb,nqc,nqd,nqe,nqf]
      obtain ⟨A5,c5,hv5,_,_,_,_⟩:=hO5.form2 encI_len
      subst hv5
      simp only [List.length_append,List.length_cons,List.length_nil,Nat.zero_add] at hO5 ⊢
      have hNg12:=hN12.grown hg5 (fun e=>hO12.neBlk hN12 (by decide) e.symm)
      refine M3.mix_step [34] (by kernel_rfl) (by simp) ?_
      intro a13 hC13 hb13 i hi
      simp only [nqj,nqk,or_false] at hi
      have hO13:=hO5.adv hb13
      have hN13:=hNg12.adv hb13
      subst hi
      refine M3.mix_val (.agg #[.int .i64 (c.y.periods+1),.int .i64 (c.y.income+s.income),.int .i64 (c.y.withheld+s.tax),.slice A5 (c.y.ins.length+1) c5,.slice T2 tk2.length tc2]) a13 rfl rfl (by go_simp) ⟨hC13,?_⟩
      simp only [Act.put,nqa,nqb,nqc,nqd,nqe,nqf]
      refine M3.mix_step [36] (by kernel_rfl) (by simp) ?_
      intro a14 hC14 hb14 i hi
      simp only [nqj,nqk,or_false] at hi
      have hO14:=hO13.adv hb14
      have hN14:=hN13.adv hb14
      subst hi
      have q0:=hN14.cell 0
      have q1:=hN14.cell 1
      have q2:=hN14.cell 2
      have q3:=hN14.cell 3
      have q4:=hN14.cell 4
      simp only [nqg,nqh,nqi] at q0 q1 q2 q3 q4
      have fq0:=hN14.frozen 0
      have fq1:=hN14.frozen 1
      have fq2:=hN14.frozen 2
      have fq3:=hN14.frozen 3
      have fq4:=hN14.frozen 4
      have hlN:=hN14.lt
      have hNf:=put5_blk hN14 (.int .i64 (c.y.periods+1)) (.int .i64 (c.y.income+s.income)) (.int .i64 (c.y.withheld+s.tax)) (.slice A5 (c.y.ins.length+1) c5) (.slice T2 tk2.length tc2)
      have hOf:=hO14.setFar (put5_grown a14 (a1.heap.size) (.int .i64 (c.y.periods+1)) (.int .i64 (c.y.income+s.income)) (.int .i64 (c.y.withheld+s.tax)) (.slice A5 (c.y.ins.length+1) c5) (.slice T2 tk2.length tc2)) (hO14.neBlk hN14 (by decide))
      have hCf:Below w10.heap.size w10 (put5 a14 (a1.heap.size) (.int .i64 (c.y.periods+1)) (.int .i64 (c.y.income+s.income)) (.int .i64 (c.y.withheld+s.tax)) (.slice A5 (c.y.ins.length+1) c5) (.slice T2 tk2.length tc2)):=hC14.trans (only_below (put5_grown a14 (a1.heap.size) (.int .i64 (c.y.periods+1)) (.int .i64 (c.y.income+s.income)) (.int .i64 (c.y.withheld+s.tax)) (.slice A5 (c.y.ins.length+1) c5) (.slice T2 tk2.length tc2)) hC14.size (fun q e=>by injection e; omega))
      refine M3.mix_skip (put5 a14 (a1.heap.size) (.int .i64 (c.y.periods+1)) (.int .i64 (c.y.income+s.income)) (.int .i64 (c.y.withheld+s.tax)) (.slice A5 (c.y.ins.length+1) c5) (.slice T2 tk2.length tc2)) rfl rfl (by unfold put5; go_simp) ⟨hCf,?_⟩
      simp only [Act.put,nqa,nqb,nqc]
      refine M3.mix_end (by kernel_rfl) ?_
      intro wz hCz hbz
      refine hQ0 _ _ ?_
      have HFIN:Hid (Fin9 w10 c s T2 tk2 tc2 (.pointer (some ⟨a1.heap.size,0,none⟩)) wz):=⟨_,A5,c5,rfl,hge1,hNf.adv hbz,hOf.adv hbz,hCz⟩
      go_wp2_with fail
      go_meet
      exact HFIN.out
   case rest =>
    rename World=>wy
    obtain ⟨gN,A5,c5,rfl,hgN,hN,hO,hby⟩:=hcut
    have lgs:=hBs10.lt
    have lgn:=hBn10.lt
    have hBy:=hB10.adv hby
    have hbely:=bel_adv hbel10 hby
    have hBsy:=hBs10.adv hby
    have hBny:=hBn10.adv hby
    have hLy:=hL10.adv hby
    have hSy:=hS10.adv hby
    have hsy:=hby.size
    have hNs:gN ≠ gs:=by omega
    have hNn:gN ≠ gn:=by omega
    obtain ⟨A5',c5',hv5,h5,hf5,_,_⟩:=hO.form2 encI_len
    injection hv5 with hv5 hln hcp
    subst hv5
    clear hln hcp
    have HF5:Hid (∀ a,A5 = some a→w0.heap.size≤a.block):=fun a ha=>by have:=hf5 a ha; have:=hbel10.size; omega
    have hA5:∀ a,A5 = some a→a.block ≠ gs∧a.block ≠ gn:=fun a ha=>by have:=hf5 a ha; exact ⟨by omega,by omega⟩
    have hlgy:=hBy.lt
    have zz27:wy.cell? ⟨g,27,none⟩ = some (.int .i64 s.b.g):=hBy.cell 27
    have zz28:wy.cell? ⟨g,28,none⟩ = some (.int .i64 s.b.c):=hBy.cell 28
    have zz29:wy.cell? ⟨g,29,none⟩ = some (.int .i64 s.b.t):=hBy.cell 29
    have zz30:wy.cell? ⟨g,30,none⟩ = some (.int .i64 s.b.i):=hBy.cell 30
    have zz31:wy.cell? ⟨g,31,none⟩ = some (.int .i64 s.b.a):=hBy.cell 31
    have zz32:wy.cell? ⟨g,32,none⟩ = some (.slice Al ys.length cl):=(hBy.cell 32).trans (by rw [← HLQ.out]; rfl)
    have zz38:wy.cell? ⟨g,38,none⟩ = some (.int .i64 s.levies):=hBy.cell 38
    have zz41:wy.cell? ⟨g,41,none⟩ = some (.int .i64 s.tax):=hBy.cell 41
    clear hB10 hbel10 hBs10 hBn10 hL10 hS10 hO hby hBy k20 k21 k22 k37 k40 k41 hf5 hb11 hO11 hBB hlg
    go_upto_region 10 with fail
    refine wp_region_box (aE:=?aE10) (t:=27) (zs:=#[.int .i64 0,.int .i64 0,.int .i64 0,.int .i64 0,.int .i64 0,.int .i64 0,.slice none 0 0]) [0,1,2,3,4,5,6,7,8,9,10,11,12,13,14,15,16,17,18,19,20,21,22,23] 24 25 #[.int .i64 s.b.g,.int .i64 s.b.c,.int .i64 s.b.t,.int .i64 s.b.i,.int .i64 s.b.a,.int .i64 (s.b.c - s.levies - s.tax),.slice Al ys.length cl] (by kernel_rfl) (by kernel_rfl) rfl (by kernel_rfl) (by kernel_rfl) (by rfl) (by kernel_rfl) (by kernel_rfl) (by kernel_rfl) rfl rfl rfl rfl rfl rfl rfl (fun _ _=>by go_simp) rfl (by kernel_rfl) rfl ?H10 ?E10 ?M10
    case H10 =>
     intro F hF inst
     simp only [M3.opsAt,List.getElem?_toArray,List.getElem?_cons_zero,List.getElem?_cons_succ]
     have e27:=BwC.cellB (F:=F) (a:=⟨g,27,none⟩) (by exact hlgy) zz27
     have e28:=BwC.cellB (F:=F) (a:=⟨g,28,none⟩) (by exact hlgy) zz28
     have e29:=BwC.cellB (F:=F) (a:=⟨g,29,none⟩) (by exact hlgy) zz29
     have e30:=BwC.cellB (F:=F) (a:=⟨g,30,none⟩) (by exact hlgy) zz30
     have e31:=BwC.cellB (F:=F) (a:=⟨g,31,none⟩) (by exact hlgy) zz31
     have e32:=BwC.cellB (F:=F) (a:=⟨g,32,none⟩) (by exact hlgy) zz32
     have e38:=BwC.cellB (F:=F) (a:=⟨g,38,none⟩) (by exact hlgy) zz38
     have e41:=BwC.cellB (F:=F) (a:=⟨g,41,none⟩) (by exact hlgy) zz41
     repeat (first | go_big_quiet_step (first | fail) | quiet_step (first | fail))
     refine wpQuiet_nil ?_
     rfl
    case E10=>exact fun _=>⟨rfl,rfl⟩
    case M10 =>
     intro g9 wb hg9 hG9 hb9
     try simp only [Act.put,List.setIfInBounds_toArray,List.set_cons_succ,List.set_cons_zero]
     have hBsx:=hBsy.adv hb9
     have hBnx:=hBny.adv hb9
     have hNx:=hN.adv hb9
     have hLx:=hLy.adv hb9
     have hSx:=hSy.adv hb9
     have h5x:=h5.adv hb9
     have hbelx:=bel_adv hbely hb9
     have hx9:=hb9.size
     have h9s:g9 ≠ gs:=by omega
     have h9n:g9 ≠ gn:=by omega
     have hne':gn ≠ gs:=fun e=>hne e.symm
     have hQ1:Hid (∀ w6,Ex gs gn wb w6→SliceOf encL 3 w6 w6.heap.size Al ys∧SliceOf encI 1 w6 w6.heap.size A5 (c.y.ins++[s.insured])∧SliceOf encE 2 w6 w6.heap.size T2 tk2∧Below w0.heap.size w0 w6):=fun w6 hC6 =>
      ⟨hSx.ex hC6 (fun _ q off e=>hAl _ e),h5x.ex hC6 (fun _ q off e=>hA5 _ e),hLx.ex hC6 (fun _ q off e=>hTs _ e),hC6.below hbelx hbelx.size hgs0 hgn0⟩
     clear hBsy hBny hN hLy hSy h5 hbely hb9 hLx hSx h5x hbelx zz27 zz28 zz29 zz30 zz31 zz32 zz38 zz41
     go_upto_region 11 with fail
     refine M3.wp_region_sel (C:=Ex gs gn wb) (Ex.stable _ _ _) (Ex.refl _ _ _) (aE:=?aEz) [0,1] 3 (by kernel_rfl) (by kernel_rfl) rfl (by kernel_rfl) (by kernel_rfl) (by rfl) ?Hz ?Mz
     case Hz =>
      intro F hF inst
      simp only [M3.opsAt,List.getElem?_toArray,List.getElem?_cons_zero,List.getElem?_cons_succ]
      have a0:=hG9.cell 0
      have a1:=hG9.cell 1
      have a2:=hG9.cell 2
      have a3:=hG9.cell 3
      have a4:=hG9.cell 4
      have a5:=hG9.cell 5
      have a6:=hG9.cell 6
      simp only [nqg,nqh,nqi] at a0 a1 a2 a3 a4 a5 a6
      have nn0:=hNx.cell 0
      have nn1:=hNx.cell 1
      have nn2:=hNx.cell 2
      have nn3:=hNx.cell 3
      have nn4:=hNx.cell 4
      simp only [nqg,nqh,nqi] at nn0 nn1 nn2 nn3 nn4
      have l1:=hG9.lt
      have l2:=hNx.lt
      have e0:∀ p:BwC (Ex gs gn wb) F,p.w'.cell? ⟨g9,0,none⟩ = some (.int .i64 s.b.g):=fun p=>(p.h.cell (p:=⟨g9,0,none⟩) l1 h9s h9n).trans a0
      have e1:∀ p:BwC (Ex gs gn wb) F,p.w'.cell? ⟨g9,1,none⟩ = some (.int .i64 s.b.c):=fun p=>(p.h.cell (p:=⟨g9,1,none⟩) l1 h9s h9n).trans a1
      have e2:∀ p:BwC (Ex gs gn wb) F,p.w'.cell? ⟨g9,2,none⟩ = some (.int .i64 s.b.t):=fun p=>(p.h.cell (p:=⟨g9,2,none⟩) l1 h9s h9n).trans a2
      have e3:∀ p:BwC (Ex gs gn wb) F,p.w'.cell? ⟨g9,3,none⟩ = some (.int .i64 s.b.i):=fun p=>(p.h.cell (p:=⟨g9,3,none⟩) l1 h9s h9n).trans a3
      have e4:∀ p:BwC (Ex gs gn wb) F,p.w'.cell? ⟨g9,4,none⟩ = some (.int .i64 s.b.a):=fun p=>(p.h.cell (p:=⟨g9,4,none⟩) l1 h9s h9n).trans a4
      have e5:∀ p:BwC (Ex gs gn wb) F,p.w'.cell? ⟨g9,5,none⟩ = some (.int .i64 (s.b.c - s.levies - s.tax)):=fun p=>(p.h.cell (p:=⟨g9,5,none⟩) l1 h9s h9n).trans a5
      have e6:∀ p:BwC (Ex gs gn wb) F,p.w'.cell? ⟨g9,6,none⟩ = some (.slice Al ys.length cl):=fun p=>(p.h.cell (p:=⟨g9,6,none⟩) l1 h9s h9n).trans a6
      have d0:∀ p:BwC (Ex gs gn wb) F,p.w'.cell? ⟨gN,0,none⟩ = some (.int .i64 (c.y.periods+1)):=fun p=>(p.h.cell (p:=⟨gN,0,none⟩) l2 hNs hNn).trans nn0
      have d1:∀ p:BwC (Ex gs gn wb) F,p.w'.cell? ⟨gN,1,none⟩ = some (.int .i64 (c.y.income+s.income)):=fun p=>(p.h.cell (p:=⟨gN,1,none⟩) l2 hNs hNn).trans nn1
      have d2:∀ p:BwC (Ex gs gn wb) F,p.w'.cell? ⟨gN,2,none⟩ = some (.int .i64 (c.y.withheld+s.tax)):=fun p=>(p.h.cell (p:=⟨gN,2,none⟩) l2 hNs hNn).trans nn2
      have d3:∀ p:BwC (Ex gs gn wb) F,p.w'.cell? ⟨gN,3,none⟩ = some (.slice A5 (c.y.ins.length+1) c5):=fun p=>(p.h.cell (p:=⟨gN,3,none⟩) l2 hNs hNn).trans nn3
      have d4:∀ p:BwC (Ex gs gn wb) F,p.w'.cell? ⟨gN,4,none⟩ = some (.slice T2 tk2.length tc2):=fun p=>(p.h.cell (p:=⟨gN,4,none⟩) l2 hNs hNn).trans nn4
      clear a0 a1 a2 a3 a4 a5 a6 nn0 nn1 nn2 nn3 nn4
      repeat (first | go_big_quiet_step (fail))
      refine wpQuiet_nil ?_
      rfl
     case Mz =>
      intro Q0 hQ0
      refine M3.mix_step [2] (by kernel_rfl) (by simp) ?_
      intro w1 hC1 hb1 i hi
      simp only [nqj,nqk,or_false] at hi
      subst hi
      have hs1:=hBsx.adv hb1
      have hn1:=hBnx.adv hb1
      have q0:=hs1.cell 0
      have q1:=hs1.cell 1
      have q2:=hs1.cell 2
      have q3:=hs1.cell 3
      have q4:=hs1.cell 4
      have q5:=hs1.cell 5
      have q6:=hs1.cell 6
      simp only [nqg,nqh,nqi] at q0 q1 q2 q3 q4 q5 q6
      have fq0:=hs1.frozen 0
      have fq1:=hs1.frozen 1
      have fq2:=hs1.frozen 2
      have fq3:=hs1.frozen 3
      have fq4:=hs1.frozen 4
      have fq5:=hs1.frozen 5
      have fq6:=hs1.frozen 6
      have l3:=hs1.lt
      refine M3.mix_skip (put7 w1 gs (.int .i64 s.b.g) (.int .i64 s.b.c) (.int .i64 s.b.t) (.int .i64 s.b.i) (.int .i64 s.b.a) (.int .i64 (s.b.c - s.levies - s.tax)) (.slice Al ys.length cl)) rfl rfl (by unfold put7; go_simp) ⟨hC1.grown (put7_grown _ _ _ _ _ _ _ _ _) (.inl rfl),?_⟩
      simp only [Act.put,nqa,nqb,nqc]
      have hs2:=put7_blk hs1 (.int .i64 s.b.g) (.int .i64 s.b.c) (.int .i64 s.b.t) (.int .i64 s.b.i) (.int .i64 s.b.a) (.int .i64 (s.b.c - s.levies - s.tax)) (.slice Al ys.length cl)
      have hn2:=hn1.grown (put7_grown w1 gs (.int .i64 s.b.g) (.int .i64 s.b.c) (.int .i64 s.b.t) (.int .i64 s.b.i) (.int .i64 s.b.a) (.int .i64 (s.b.c - s.levies - s.tax)) (.slice Al ys.length cl)) (fun e=>hne' (by injection e))
      clear q0 q1 q2 q3 q4 q5 q6 fq0 fq1 fq2 fq3 fq4 fq5 fq6 l3 hs1 hn1
      generalize put7 w1 gs (.int .i64 s.b.g) (.int .i64 s.b.c) (.int .i64 s.b.t) (.int .i64 s.b.i) (.int .i64 s.b.a) (.int .i64 (s.b.c - s.levies - s.tax)) (.slice Al ys.length cl) = w2' at hs2 hn2 ⊢
      refine M3.mix_step [3] (by kernel_rfl) (by simp) ?_
      intro w3' hC3 hb3 i hi
      simp only [nqj,nqk,or_false] at hi
      subst hi
      have hs3:=hs2.adv hb3
      have hn3:=hn2.adv hb3
      have q0:=hn3.cell 0
      have q1:=hn3.cell 1
      have q2:=hn3.cell 2
      have q3:=hn3.cell 3
      have q4:=hn3.cell 4
      simp only [nqg,nqh,nqi] at q0 q1 q2 q3 q4
      have fq0:=hn3.frozen 0
      have fq1:=hn3.frozen 1
      have fq2:=hn3.frozen 2
      have fq3:=hn3.frozen 3
      have fq4:=hn3.frozen 4
      have l3:=hn3.lt
      refine M3.mix_skip (put5 w3' gn (.int .i64 (c.y.periods+1)) (.int .i64 (c.y.income+s.income)) (.int .i64 (c.y.withheld+s.tax)) (.slice A5 (c.y.ins.length+1) c5) (.slice T2 tk2.length tc2)) rfl rfl (by unfold put5; go_simp) ⟨hC3.grown (put5_grown _ _ _ _ _ _ _) (.inr rfl),?_⟩
      simp only [Act.put,nqa,nqb,nqc]
      have hn4:=put5_blk hn3 (.int .i64 (c.y.periods+1)) (.int .i64 (c.y.income+s.income)) (.int .i64 (c.y.withheld+s.tax)) (.slice A5 (c.y.ins.length+1) c5) (.slice T2 tk2.length tc2)
      have hs4:=hs3.grown (put5_grown w3' gn (.int .i64 (c.y.periods+1)) (.int .i64 (c.y.income+s.income)) (.int .i64 (c.y.withheld+s.tax)) (.slice A5 (c.y.ins.length+1) c5) (.slice T2 tk2.length tc2)) (fun e=>hne (by injection e))
      clear q0 q1 q2 q3 q4 fq0 fq1 fq2 fq3 fq4 l3 hs3 hn3 hs2 hn2
      generalize put5 w3' gn (.int .i64 (c.y.periods+1)) (.int .i64 (c.y.income+s.income)) (.int .i64 (c.y.withheld+s.tax)) (.slice A5 (c.y.ins.length+1) c5) (.slice T2 tk2.length tc2) = w4' at hs4 hn4 ⊢
      refine M3.mix_step [4] (by kernel_rfl) (by simp) ?_
      intro w5 hC5 hb5 i hi
      simp only [nqj,nqk,or_false] at hi
      subst hi
      refine M3.mix_val (.int .i64 0) w5 rfl rfl rfl ⟨hC5,?_⟩
      simp only [Act.put,nqa,nqb,nqc,nqd,nqe,nqf]
      refine M3.mix_end (by kernel_rfl) ?_
      intro w6 hC6 hb6
      refine hQ0 _ _ ?_
      have hs6:=(hs4.adv hb5).adv hb6
      have hn6:=(hn4.adv hb5).adv hb6
      obtain ⟨k1,k2,k3,k4⟩:=hQ1.out w6 hC6
      have q0:=hs6.cell 0
      have q1:=hs6.cell 1
      have q2:=hs6.cell 2
      have q3:=hs6.cell 3
      have q4:=hs6.cell 4
      have q5:=hs6.cell 5
      have q6:=hs6.cell 6
      simp only [nqg,nqh,nqi] at q0 q1 q2 q3 q4 q5 q6
      have r0:=hn6.cell 0
      have r1:=hn6.cell 1
      have r2:=hn6.cell 2
      have r3:=hn6.cell 3
      have r4:=hn6.cell 4
      simp only [nqg,nqh,nqi] at r0 r1 r2 r3 r4
      have HK1:=Lib.hid k1
      have HK2:=Lib.hid k2
      have HK3:=Lib.hid k3
      clear k1 k2 k3 hs4 hn4 hs6 hn6 hBsx hBnx hNx hG9
      go_wp2
      refine bodyPost_ret (v:=_) (by simp [results,Tryz.results58,go_sem,q0,q1,q2,q3,q4,q5,q6,r0,r1,r2,r3,r4]; rfl) rfl ?_
      exact .inl ⟨rfl,Al,cl,A5,c5,T2,tc2,rfl,HK1.out,HK2.out,HK3.out,HFA.out,HF5.out,HF2.out,k4⟩
end Go.Proofs.YtlhkojcmcmkmaaaGreat
