/- Joined texts: Same32 KeepP. Conditions: as stated. -/
import Derived.Test.YtlhkojcmcmkmaaaGreatJCmp0
namespace Go.Proofs.YtlhkojcmcmkmaaaGreat
open Go.RowKit
theorem eqlselfBss (y:BasesT) (w:World) : Sem.run Tryz.prog (binOp .eql 24 (.agg #[.int .i64 y.g,.int .i64 y.c,.int .i64 y.t,.int .i64 y.i,.int .i64 y.a]) (.agg #[.int .i64 y.g,.int .i64 y.c,.int .i64 y.t,.int .i64 y.i,.int .i64 y.a])) w = .ok (.bool true) w:=by
 have u0:=Tryz.underlying3
 have a0:=Tryz.isAgg3
 have z0:=Tryz.sizeOf3
 have hS:Tryz.prog.underlying 24 = some (.struct (Tryz.prog.fieldsOf 24)):=by kernel_rfl
 have hp:Tryz.prog.stoodInHeld 24 = false:=by kernel_rfl
 rw [run_eql_struct,show (10000:Nat) = 9999+1 from rfl,run_equalIn_agg w 9999 24 _ _ hS hp]
 simp only [Program.fieldsOf,Tryz.underlying24]
 go_simp
theorem guardBss : Tryz.prog.eqGuardType Tryz.prog.depth 24 = false:=by kernel_rfl
set_option maxRecDepth 100000 in
set_option maxHeartbeats 4000000 in
theorem sameSlip_yes (b:BasesT) (lg:Int) (A B : Option Addr) (c d : Nat) (ls:List LineT) (w:World) (hA:SliceOf encL 3 w w.heap.size A ls) (hB:SliceOf encL 3 w w.heap.size B ls) (hl:ls.length≤1000000) :
  Calls Tryz.prog 25 #[.agg #[.int .i64 b.g,.int .i64 b.c,.int .i64 b.t,.int .i64 b.i,.int .i64 b.a,.int .i64 lg,.slice A ls.length c],.agg #[.int .i64 b.g,.int .i64 b.c,.int .i64 b.t,.int .i64 b.i,.int .i64 b.a,.int .i64 lg,.slice B ls.length d]] w fun e w'=>e = .returned (.bool true)∧Below w.heap.size w w':=by
 have he:=fun w=>eqlselfBss b w
 have hgd:=guardBss
 have hbw:=bel_alloc (below_new w (.cells #[.int .i64 b.g,.int .i64 b.c,.int .i64 b.t,.int .i64 b.i,.int .i64 b.a,.int .i64 lg,.slice A ls.length c] 27)) (.cells #[.int .i64 b.g,.int .i64 b.c,.int .i64 b.t,.int .i64 b.i,.int .i64 b.a,.int .i64 lg,.slice B ls.length d] 27)
 have hX:=(Blk.new w 27 #[.int .i64 b.g,.int .i64 b.c,.int .i64 b.t,.int .i64 b.i,.int .i64 b.a,.int .i64 lg,.slice A ls.length c]).alloc (.cells #[.int .i64 b.g,.int .i64 b.c,.int .i64 b.t,.int .i64 b.i,.int .i64 b.a,.int .i64 lg,.slice B ls.length d] 27)
 have hY:=Blk.new (w.alloc (.cells #[.int .i64 b.g,.int .i64 b.c,.int .i64 b.t,.int .i64 b.i,.int .i64 b.a,.int .i64 lg,.slice A ls.length c] 27)) 27 #[.int .i64 b.g,.int .i64 b.c,.int .i64 b.t,.int .i64 b.i,.int .i64 b.a,.int .i64 lg,.slice B ls.length d]
 rw [World.size_alloc] at hY
 go_enter Tryz.func25,Tryz.ntmps25
 go_upto_region 1 with fail
 have HS:=Lib.hid (fun (W:World) (hb:Below w.heap.size w W)=>sameL_self A B c d ls W (hA.adv hb) (hB.adv hb) (by omega))
 generalize World.alloc (w.alloc _) _ = W at hbw hX hY ⊢
 have z0:=hX.cell 0
 have z1:=hX.cell 1
 have z2:=hX.cell 2
 have z3:=hX.cell 3
 have z4:=hX.cell 4
 have z5:=hX.cell 5
 have z6:=hX.cell 6
 simp only [nqg,nqh,nqi] at z0 z1 z2 z3 z4 z5 z6
 have y0:=hY.cell 0
 have y1:=hY.cell 1
 have y2:=hY.cell 2
 have y3:=hY.cell 3
 have y4:=hY.cell 4
 have y5:=hY.cell 5
 have y6:=hY.cell 6
 simp only [nqg,nqh,nqi] at y0 y1 y2 y3 y4 y5 y6
 go_wp2_with fail
 refine (HS.out W hbw).mono ?_
 rintro e w' ⟨rfl,q,rfl⟩
 go_wp2
 go_ret
 exact ⟨rfl,below_drewN hbw q⟩
set_option maxRecDepth 100000 in
set_option maxHeartbeats 4000000 in
theorem sameYear_yes (p i wh : Int) (A B T U : Option Addr) (c d tc uc : Nat) (ins:List Int) (tk:List Elem) (w:World) (hA:SliceOf encI 1 w w.heap.size A ins) (hB:SliceOf encI 1 w w.heap.size B ins) (hT:SliceOf encE 2 w w.heap.size T tk) (hU:SliceOf encE 2 w w.heap.size U tk) (hl:ins.length≤1000000) (hl2:tk.length≤1000000) :
  Calls Tryz.prog 26 #[.agg #[.int .i64 p,.int .i64 i,.int .i64 wh,.slice A ins.length c,.slice T tk.length tc],.agg #[.int .i64 p,.int .i64 i,.int .i64 wh,.slice B ins.length d,.slice U tk.length uc]] w fun e w'=>e = .returned (.bool true)∧Below w.heap.size w w':=by
 have hbw:=bel_alloc (below_new w (.cells #[.int .i64 p,.int .i64 i,.int .i64 wh,.slice A ins.length c,.slice T tk.length tc] 53)) (.cells #[.int .i64 p,.int .i64 i,.int .i64 wh,.slice B ins.length d,.slice U tk.length uc] 53)
 have hX:=(Blk.new w 53 #[.int .i64 p,.int .i64 i,.int .i64 wh,.slice A ins.length c,.slice T tk.length tc]).alloc (.cells #[.int .i64 p,.int .i64 i,.int .i64 wh,.slice B ins.length d,.slice U tk.length uc] 53)
 have hY:=Blk.new (w.alloc (.cells #[.int .i64 p,.int .i64 i,.int .i64 wh,.slice A ins.length c,.slice T tk.length tc] 53)) 53 #[.int .i64 p,.int .i64 i,.int .i64 wh,.slice B ins.length d,.slice U tk.length uc]
 rw [World.size_alloc] at hY
 have HS:Hid (∀ W:World,Below w.heap.size w W→Calls Tryz.prog 62 #[.slice T tk.length tc,.slice U tk.length uc] W fun e w'=>e = .returned (.bool true)∧∃ q,w' = W.drewN q):=fun W hb=>by
  have:=same_any T U tc uc tk tk W W.heap.size (hT.adv hb) (hU.adv hb) (by omega) (by omega)
  rwa [show sameB tk tk = true from by simp [sameB]] at this
 have hlen':((ins.length:Int) != (ins.length:Int)) = false:=by simp
 go_enter Tryz.func26,Tryz.ntmps26
 go_upto_region 1 with fail
 generalize World.alloc (w.alloc _) _ = W at hbw hX hY ⊢
 have HA:=Lib.hid (hA.adv hbw)
 have HB:=Lib.hid (hB.adv hbw)
 have z0:=hX.cell 0
 have z1:=hX.cell 1
 have z2:=hX.cell 2
 have z3:=hX.cell 3
 have z4:=hX.cell 4
 simp only [nqg,nqh,nqi] at z0 z1 z2 z3 z4
 have y0:=hY.cell 0
 have y1:=hY.cell 1
 have y2:=hY.cell 2
 have y3:=hY.cell 3
 have y4:=hY.cell 4
 simp only [nqg,nqh,nqi] at y0 y1 y2 y3 y4
 go_wp2_with fail
 refine (HS.out W hbw).mono ?_
 rintro e w' ⟨rfl,q,rfl⟩
 have hb1:=below_drewN (Below.refl W.heap.size W) q
 clear z0 z1 z2 z3 z4 y0 y1 y2 y3 y4
 go_wp2_with fail
 go_loopw [5] (fun v wr=>∃ k:Nat,k≤ins.length∧v = .int .i64 k∧Below W.heap.size W wr) (fun v _=>ins.length - (intOf v).toNat)
 case atStart=>exact ⟨0,by omega,rfl,hb1⟩
 case round =>
  rename World=>wr
  obtain ⟨k,hk,rfl,hbr⟩:=hrel
  have hXr:=hX.adv hbr
  have hYr:=hY.adv hbr
  have z3:=hXr.cell 3
  have y3:=hYr.cell 3
  simp only [nqg,nqh,nqi] at z3 y3
  have hlx:=hXr.lt
  have hly:=hYr.lt
  by_cases hlt:k < ins.length
  ·
   obtain ⟨b1,o1,rfl,hb1',hc1⟩:=(HA.out.adv hbr).at_ hlt
   obtain ⟨b2,o2,rfl,hb2',hc2⟩:=(HB.out.adv hbr).at_ hlt
   have c0:=hc1 0 _ rfl
   have d0:=hc2 0 _ rfl
   simp only [Nat.add_zero,Nat.mul_one] at c0 d0
   have hki:(k:Int) < (ins.length:Int):=by omega
   have hne:(ins[k] != ins[k]) = false:=by simp
   clear hc1 hc2 HA HB
   go_upto_region 6 with fail
   have e3:=Bw.cell (w:=wr) (a:=⟨w.heap.size,3,none⟩) (by exact hlx) z3
   have f3:=Bw.cell (w:=wr) (a:=⟨w.heap.size+1,3,none⟩) (by exact hly) y3
   have g0:=Bw.cell (w:=wr) (a:=⟨b1,o1+k,none⟩) (by exact hb1') c0
   have g1:=Bw.cell (w:=wr) (a:=⟨b2,o2+k,none⟩) (by exact hb2') d0
   refine wp_region_below (by kernel_rfl) (by kernel_rfl) ?_
   repeat (go_big_quiet_step (fail))
   refine wpQuiet_nil ?_
   intro W6 hw'
   obtain ⟨⟨W6,hW6⟩,hw''⟩:=hw'
   subst hw''
   have hb6:=bel_adv hbr hW6
   go_wp2
   go_roundw
   case rel =>
    have hfin:∃ k':Nat,k'≤ins.length∧Value.int .i64 ((k:Int)+1) = .int .i64 k'∧Below W.heap.size W W6:=⟨k+1,by omega,by go_num,hb6⟩
    first | exact hfin | ((repeat apply Exists.intro); exact ⟨hfin,rfl⟩)
   case measure=>simp [intOf]; omega
  ·
   obtain rfl:k = ins.length:=by omega
   have hfin:=bel_adv hbw hbr
   go_wp2
   go_ret
   exact ⟨rfl,hfin⟩
end Go.Proofs.YtlhkojcmcmkmaaaGreat
namespace Go.Proofs.YtlhkojcmcmkmaaaGreat
open Go.RowKit
def keptL (ls:List LineT) : List Elem:=(ls.filter fun x=>decide (x.kind = 7)).map fun x=>⟨x.code,x.amount⟩
theorem keptL_append (l m : List LineT) : keptL (l++m) = keptL l++keptL m:=by simp [keptL]
theorem keptL_linesK (k:Int) (l:List Elem) : keptL (linesK k l) = if k = 7 then l.filter nz else []:=by
 unfold keptL linesK
 induction l.filter nz with
 | nil=>simp
 | cons a l ih =>
  by_cases h:k = 7
  ·
   simp only [h,if_true] at ih ⊢
   simp only [List.map_cons,List.filter_cons_of_pos,decide_true]
   rw [ih]
  ·
   simp only [h,if_false] at ih ⊢
   simp only [List.map_cons]
   rw [List.filter_cons_of_neg (by simp [h])]
   exact ih
theorem keptL_take (l:List LineT) (i:Nat) (h:i < l.length) : keptL (l.take (i+1)) = keptL (l.take i)++if l[i].kind = 7 then [⟨l[i].code,l[i].amount⟩] else []:=by
 rw [List.take_succ_eq_append_getElem h,keptL_append]
 congr 1
 by_cases hk:l[i].kind = 7 <;> simp [keptL,hk]
theorem keptL_lines (I:NetIn) : keptL I.lines = I.attached.filter nz:=by
 simp only [NetIn.lines,keptL_append,keptL_linesK]
 simp
theorem linesK_filter (k:Int) (l:List Elem) : linesK k (l.filter nz) = linesK k l:=by
 unfold linesK; rw [List.filter_filter]; simp
def keepI (I:NetIn) (k:List Elem) : NetIn:={ I with kept:=k,first:=false }
section
variable {I:NetIn}
theorem keep_att (k:List Elem) : (keepI I k).attached = k:=by unfold NetIn.attached keepI; simp
theorem keep_left4 : (keepI I (I.attached.filter nz)).left4 = I.left4:=by
 show (keepI I (I.attached.filter nz)).left3 - sumE (keepI I (I.attached.filter nz)).attached = I.left3 - sumE I.attached
 rw [keep_att,sumE_nz]; rfl
theorem keep_after : (keepI I (I.attached.filter nz)).after = I.after:=by
 show takeR I.p.deds false I.base (max (keepI I (I.attached.filter nz)).left4 0) I.taken1 = takeR I.p.deds false I.base (max I.left4 0) I.taken1
 rw [keep_left4]
theorem keep_left5 : (keepI I (I.attached.filter nz)).left5 = I.left5:=by
 show (keepI I (I.attached.filter nz)).left4 - sumE (keepI I (I.attached.filter nz)).after = I.left4 - sumE I.after
 rw [keep_left4,keep_after]
theorem keep_taken2 : (keepI I (I.attached.filter nz)).taken2 = I.taken2:=by
 show addR I.taken1 (keepI I (I.attached.filter nz)).after = addR I.taken1 I.after
 rw [keep_after]
theorem keep_lines : (keepI I (I.attached.filter nz)).lines = I.lines:=by
 show linesK 1 I.earn++linesK 2 I.bene++linesK 3 I.before++linesK 4 (I.ownTo I.r.schemes)++linesK 5 (I.emplTo I.r.schemes)++linesK 6 [⟨⟨#[]⟩,I.tax⟩]++linesK 7 (keepI I (I.attached.filter nz)).attached++linesK 8 (keepI I (I.attached.filter nz)).after++linesK 9 [⟨⟨#[]⟩,max (keepI I (I.attached.filter nz)).left5 0⟩]++linesK 10 [⟨⟨#[]⟩,max (-(keepI I (I.attached.filter nz)).left5) 0⟩] = I.lines
 rw [keep_att,linesK_filter,keep_after,keep_left5]; rfl
theorem keep_next : (keepI I (I.attached.filter nz)).next = I.next:=by
 show (⟨I.y.periods+1,I.y.income+I.income,I.y.withheld+I.tax,I.y.insured++[I.insured],(keepI I (I.attached.filter nz)).taken2⟩ : YearT) = I.next
 rw [keep_taken2]; rfl
theorem keep_err (he:I.err = 0) : (keepI I (I.attached.filter nz)).err = 0:=by
 obtain ⟨hp,ho,ht1,hov,htx,hat,ha1,ht2,ha2⟩:=NetIn.err_inv he
 have P:Pre4 (keepI I (I.attached.filter nz)):=⟨hp,ho,ht1,hov,htx,fun h=>by cases h.1⟩
 refine P.err3 ha1 ?_ ?_
 ·
  show takeE I.p.deds I.base (max (keepI I (I.attached.filter nz)).left4 0) I.taken1 = 0
  rw [keep_left4]; exact ht2
 ·
  show addE I.taken1 (keepI I (I.attached.filter nz)).after = 0
  rw [keep_after]; exact ha2
theorem keep_ok (h:InOk I) (he:I.err = 0) (hf:I.first = true) : InOk (keepI I (I.attached.filter nz)):=by
 have hat:=(NetIn.err_inv he).2.2.2.2.2.1
 have hn:I.net≤1000000000:=by
  rcases Int.lt_or_le 1000000000 I.net with h | h
  ·
   exact absurd ⟨hf,h⟩ hat
  ·
   exact h
 obtain ⟨a,_⟩:=attach_facts h.r.sh h.p.orders (net:=I.net) (by unfold NetIn.net; omega) hn h.p.d0 h.p.d1
 have e:I.attached = attachN I.r.sh I.net I.p.deps I.p.orders:=by unfold NetIn.attached; rw [if_pos hf]
 rw [← e] at a
 have hl:I.attached.length≤16:=by
  have:=nodup_len a.sorted a.code
  have:=h.p.orders.len
  omega
 have hl2:(I.attached.filter nz).length≤16:=Nat.le_trans (List.length_filter_le _ _) hl
 refine ⟨h.r,h.p,h.y,⟨recB_iff.2 ⟨by show (I.attached.filter nz).length≤128; omega,fun x hx=>?_,List.Pairwise.filter _ a.sorted⟩,hl2,fun x hx=>?_⟩,h.same,h.size⟩
 ·
  have hx':=mem_flt hx
  exact ⟨a.name x hx',a.pos x hx',by have:=a.hi x hx'; omega⟩
 ·
  have:=a.hi x (mem_flt hx); omega
end
end Go.Proofs.YtlhkojcmcmkmaaaGreat
