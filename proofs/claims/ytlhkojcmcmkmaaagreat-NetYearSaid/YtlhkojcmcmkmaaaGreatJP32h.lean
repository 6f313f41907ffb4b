/- Joined texts: P32h. Conditions: as stated. -/
import Derived.Test.YtlhkojcmcmkmaaaGreatJBox
import Derived.Test.YtlhkojcmcmkmaaaGreatJP30
namespace Go.Proofs.YtlhkojcmcmkmaaaGreat
open Go.RowKit
set_option maxRecDepth 100000 in
set_option maxHeartbeats 4000000 in
theorem withholdMP32 {w0:World} {g:Nat} {c:CalF} {s:CalS} {ls:List LineT} {w:World} (h:CalI w0 g c s ls w) (hr:c.r.In w0) (B:Option Addr) (bc:Nat) (bl:List Elem) (hbv:s.bv = .slice B bl.length bc) (hL:Lst encE 2 w g s.lv B bl)
  (hls:ls.length≤1000) (hbl:bl.length≤128) (hx:∀ x ∈ bl,0≤x.amount∧x.amount≤1000000000) (hT:TarOk c.r.tm.t) (n0:1≤c.r.count) (n1:c.r.count≤53) (p0:0≤c.y.periods) (p1:c.y.periods < c.r.count)
  (y0:0≤c.y.income) (y1:c.y.income≤999000000000) (u0 : -1000000000000≤c.y.withheld) (u1:c.y.withheld≤1000000000000) (t0 : -1000000000≤s.b.t) (t1:s.b.t≤1000000000) (r0:0≤s.relief) (r1:s.relief≤12000000000)
  (l0 : -100000000000≤s.left) (l1:s.left≤100000000000) (inc tax:Int) (hinc:inc = max (s.b.t - s.relief - sumE bl) 0) (htax:tax = withN c.r.tm.t c.r.count c.y.periods c.y.income c.y.withheld inc) :
  Calls Tryz.prog 55 #[.pointer (some ⟨g,0,none⟩)] w fun e w'=>Below w0.heap.size w0 w'∧((amtB tax = false∧e = .returned (.int .i64 4)) ∨ (amtB tax = true∧e = .returned (.int .i64 0) ∧
   ∃ v',CalI w0 g c { s with income:=inc,tax:=tax,lv:=v',left:=s.left - tax } (ls++linesK 6 [⟨⟨#[]⟩,tax⟩]) w'∧Mv g s.lv w v' w')):=by
 have HX:=Lib.hid hx
 have HSB:Hid (∀ k,k≤bl.length→0≤sumE (bl.take k)∧sumE (bl.take k)≤128000000000):=fun k hk=>by
  have:=sumE_bd (bl.take k) 1000000000 (fun x hx=>HX.out x (List.mem_of_mem_take hx))
  rw [List.length_take] at this
  omega
 have HI:=Lib.hid h
 have HL:=Lib.hid hL
 have HWH:Hid (0≤inc→inc≤1000000000→∀ W,Below w0.heap.size w0 W→Calls Tryz.prog 108 #[.agg #[.int .i64 c.r.tm.t.method,.slice c.r.tm.Ab c.r.tm.t.brs.length c.r.tm.cb,.int .i64 c.r.tm.t.allowance,.int .i64 c.r.tm.t.credit,.int .i64 c.r.tm.t.unit,.int .i64 c.r.tm.t.mode,.slice c.r.tm.Ar c.r.tm.t.rows.length c.r.tm.cr],.int .i64 c.r.count,.agg #[.int .i64 c.y.periods,.int .i64 c.y.income,.int .i64 c.y.withheld,.slice c.y.Ai c.y.ins.length c.y.ci,.slice c.y.At c.y.taken.length c.y.ct],.int .i64 inc] W fun e w'=>e = .returned (.tuple #[.int .i64 tax,.int .i64 0])∧Below W.heap.size W w'):=fun i0 i1 W hb=>by
  rw [htax]
  exact withholdP30 c.r.tm c.r.count c.y.periods c.y.income c.y.withheld inc c.y.Ai c.y.At c.y.ins.length c.y.ci c.y.taken.length c.y.ct W (hr.adv hb).tm hT n0 n1 p0 p1 i0 i1 y0 y1 u0 u1
 have zz29:w.cell? ⟨g,29,none⟩ = some (.int .i64 s.b.t):=h.blk.cell 29
 have zz34:w.cell? ⟨g,34,none⟩ = some (.slice B bl.length bc):=by have:w.cell? ⟨g,34,none⟩ = some s.bv:=h.blk.cell 34; rw [this,hbv]
 have zz39:w.cell? ⟨g,39,none⟩ = some (.int .i64 s.relief):=h.blk.cell 39
 have hlt:=h.lt
 have HINC:=Lib.hid hinc
 clear h hr hL hx hT hbv htax hinc y0 y1 u0 u1 n0 n1 p0 p1
 go_enter Tryz.func55,Tryz.ntmps55
 have e29:=Bw.cell (w:=w) (a:=⟨g,29,none⟩) (by exact hlt) zz29
 have e39:=Bw.cell (w:=w) (a:=⟨g,39,none⟩) (by exact hlt) zz39
 go_upto_region 1 with fail
 refine wp_region_below (by kernel_rfl) (by kernel_rfl) ?_
 repeat (go_big_quiet_step (fail))
 refine wpQuiet_nil ?_
 intro W2 hw'
 obtain ⟨⟨W9,hW2⟩,hw''⟩:=hw'
 subst hw''
 have z34:=(hW2.cell (p:=⟨g,34,none⟩) (by exact hlt)).trans zz34
 clear zz29 zz34 zz39 e29 e39
 go_wp2_with fail
 go_loopw [3,23] (fun ic i wr=>∃ k:Nat,k≤bl.length∧i = .int .i64 k∧ic = .int .i64 (s.b.t - s.relief - sumE (bl.take k))∧Below w.heap.size w wr) (fun _ i _=>bl.length - (intOf i).toNat)
 case atStart=>exact ⟨0,by omega,rfl,by simp [sumE],hW2⟩
 case round =>
  rename World=>wr
  clear z34
  obtain ⟨k,hk,rfl,rfl,hbr⟩:=hrel
  by_cases hlt2:k < bl.length
  ·
   obtain ⟨b,off,hAe,hbb,hc⟩:=(HL.out.sl.adv hbr).at_ hlt2
   have c0:=hc 0 _ rfl
   have c1:=hc 1 _ rfl
   simp only [Nat.add_zero] at c0
   rw [hAe]
   have HS:Hid (sumE (bl.take (k+1)) = sumE (bl.take k)+bl[k].amount):=sumE_take bl k hlt2
   have hki:(k:Int) < (bl.length:Int):=by omega
   obtain ⟨x0,x1⟩:=HX.out _ (List.getElem_mem hlt2)
   obtain ⟨s0,s1⟩:=HSB.out k (by omega)
   have hbn:=below_new wr (.cells #[.string bl[k].code,.int .i64 bl[k].amount] 69)
   clear hc
   generalize bl[k] = x at *
   generalize sumE (bl.take k) = q at *
   have hb1:=bel_adv hbr hbn
   go_wp2
   go_roundw
   case rel =>
    have hfin:∃ k':Nat,k'≤bl.length∧Value.int .i64 ((k:Int)+1) = .int .i64 k'∧Value.int .i64 (s.b.t - s.relief - q - x.amount) = .int .i64 (s.b.t - s.relief - sumE (bl.take k'))∧Below w.heap.size w (wr.alloc (.cells #[.string x.code,.int .i64 x.amount] 69)):=⟨k+1,by omega,by go_num,by rw [HS.out,← Int.sub_sub],hb1⟩
    first | exact hfin | ((repeat apply Exists.intro); exact ⟨hfin,rfl⟩)
   case measure=>simp [intOf]; omega
  ·
   obtain rfl:k = bl.length:=by omega
   have hI:=HI.out.adv hbr
   have hm:=Mv.bel (g:=g) (v:=s.lv) hbr
   obtain ⟨s0,s1⟩:=HSB.out bl.length (Nat.le_refl _)
   rw [List.take_length] at s0 s1 ⊢
   have i0:0≤inc:=by have:=HINC.out; omega
   have i1:inc≤1000000000:=by have:=HINC.out; omega
   have HW2:=Lib.hid (HWH.out i0 i1)
   have z40:wr.cell? ⟨g,40,none⟩ = some (.int .i64 s.income):=hI.blk.cell 40
   have f40:=hI.blk.frozen 40
   clear HWH HL HX HSB hbr
   go_upto_region 8 with fail
   first | rw [show (if s.b.t - s.relief - sumE bl < 0 then 0 else s.b.t - s.relief - sumE bl) = inc by rw [HINC.out]; split <;> omega] | rw [show max (s.b.t - s.relief - sumE bl) 0 = inc from HINC.out.symm]
   have hI2:=hI.putIncome inc
   have hm2:=hm.trans (Mv.set 40 (.int .i64 inc))
   generalize wr.setCell ⟨g,40,none⟩ (.int .i64 inc) = W8 at hI2 hm2 ⊢
   clear hI hm z40 f40 HI HINC
   have hl8:=hI2.lt
   have hq:∀ i v,(calC c { s with income:=inc })[i]? = some v→∀ p:Bw W8,p.w'.cell? ⟨g,i,none⟩ = some v:=fun i v hv p=>Bw.cell (w:=W8) (a:=⟨g,i,none⟩) (by exact hl8) ((hI2.blk.cell i).trans hv) p
   have e2:=hq 2 (.int .i64 c.r.tm.t.method) rfl
   have e3:=hq 3 (.slice c.r.tm.Ab c.r.tm.t.brs.length c.r.tm.cb) rfl
   have e4:=hq 4 (.int .i64 c.r.tm.t.allowance) rfl
   have e5:=hq 5 (.int .i64 c.r.tm.t.credit) rfl
   have e6:=hq 6 (.int .i64 c.r.tm.t.unit) rfl
   have e7:=hq 7 (.int .i64 c.r.tm.t.mode) rfl
   have e8:=hq 8 (.slice c.r.tm.Ar c.r.tm.t.rows.length c.r.tm.cr) rfl
   have e9:=hq 9 (.int .i64 c.r.count) rfl
   have e20:=hq 20 (.int .i64 c.y.periods) rfl
   have e21:=hq 21 (.int .i64 c.y.income) rfl
   have e22:=hq 22 (.int .i64 c.y.withheld) rfl
   have e23:=hq 23 (.slice c.y.Ai c.y.ins.length c.y.ci) rfl
   have e24:=hq 24 (.slice c.y.At c.y.taken.length c.y.ct) rfl
   have e40:=hq 40 (.int .i64 inc) rfl
   clear hq
   refine wp_region_below (by kernel_rfl) (by kernel_rfl) ?_
   repeat (go_big_quiet_step (exact Bw.call _ (HW2.out _ (bel_adv hI2.bel (Bw.h _)))))
   refine wpQuiet_nil ?_
   intro W9 hw'
   obtain ⟨⟨W9,hW9⟩,hw''⟩:=hw'
   subst hw''
   have hI3:=hI2.adv hW9
   have hm3:=hm2.trans (Mv.bel hW9)
   clear e2 e3 e4 e5 e6 e7 e8 e9 e20 e21 e22 e23 e24 e40 hI2 hm2 HW2 hl8
   have hbel:=hI3.bel
   by_cases a0 : -1000000000≤tax
   rotate_left
   ·
    have HB:Hid (amtB tax = false):=by simp [Hid,amtB]; omega
    go_wp2
    go_ret
    exact ⟨hbel,.inl ⟨HB.out,rfl⟩⟩
   by_cases a1:tax≤1000000000
   rotate_left
   ·
    have HB:Hid (amtB tax = false):=by simp [Hid,amtB]; omega
    go_wp2
    go_ret
    exact ⟨hbel,.inl ⟨HB.out,rfl⟩⟩
   have HB:Hid (amtB tax = true):=by simp [Hid,amtB]; omega
   have z41:W9.cell? ⟨g,41,none⟩ = some (.int .i64 s.tax):=hI3.blk.cell 41
   have f41:=hI3.blk.frozen 41
   go_upto_region 14 with fail
   have hI4:=hI3.putTax tax
   have hm4:=hm3.trans (Mv.set 41 (.int .i64 tax))
   generalize W9.setCell ⟨g,41,none⟩ (.int .i64 tax) = W14 at hI4 hm4 ⊢
   clear hI3 hm3 z41 f41 hbel
   go_wp2_with fail
   refine (lineP32 hI4 6 ⟨#[]⟩ tax (by omega)).mono ?_
   rintro e w5 ⟨rfl,v5,hI5,hm5⟩
   have hm6:=hm4.trans hm5
   have z33:w5.cell? ⟨g,33,none⟩ = some (.int .i64 s.left):=hI5.blk.cell 33
   have f33:=hI5.blk.frozen 33
   clear hI4 hm4 hm5
   go_wp2
   go_ret
   have hI6:=hI5.putLeft (s.left - tax)
   have hm7:=hm6.trans (Mv.set 33 (.int .i64 (s.left - tax)))
   exact ⟨hI6.bel,.inr ⟨HB.out,rfl,v5,hI6,hm7⟩⟩
end Go.Proofs.YtlhkojcmcmkmaaaGreat
