/- Joined texts: P28d. Conditions: as stated. -/
import Derived.Test.YtlhkojcmcmkmaaaGreatJP28c
namespace Go.Proofs.YtlhkojcmcmkmaaaGreat
open Go.RowKit
set_option maxRecDepth 100000 in
set_option maxHeartbeats 4000000 in
theorem jointErrP (A:Option Addr) (cap n : Nat) (es:List EmpC) (w:World) (h:SliceOf encEm 2 w w.heap.size A es) (hin : ∀ e ∈ es,SliceOf encI 1 w w.heap.size e.A e.l) (hE:EmpsOk n (es.map EmpC.v)) :
  Calls Tryz.prog 161 #[.slice A es.length cap] w fun e w'=>e = .returned (.int .i64 0)∧Below w.heap.size w w':=by
 have hl8:es.length≤8:=by have:=hE.len; simpa using this
 have hl0:0 < es.length:=by have:=hE.ne; simpa using this
 have hn52:=hE.nn
 have HIN:=Lib.hid hin
 have HLENS:Hid (∀ k,(hk:k < es.length)→es[k].l.length = n):=fun k hk=>hE.lens (es[k].v) (List.mem_map.2 ⟨_,List.getElem_mem hk,rfl⟩)
 have HBASE:Hid (∀ k,(hk:k < es.length)→0≤es[k].base∧es[k].base≤1000000000):=fun k hk=>hE.base (es[k].v) (List.mem_map.2 ⟨_,List.getElem_mem hk,rfl⟩)
 have HEARL:Hid (∀ k,(hk:k < es.length)→∀ x ∈ es[k].l,0≤x∧x≤1000000000):=fun k hk=>hE.earlier (es[k].v) (List.mem_map.2 ⟨_,List.getElem_mem hk,rfl⟩)
 have hz0:((es.length:Int) == 0) = false:=by rw [beq_eq_false_iff_ne]; omega
 clear hE hin
 go_enter Tryz.func161,Tryz.ntmps161
 go_wp2
 go_loopw [21] (fun i wr=>∃ k:Nat,k≤es.length∧i = .int .i64 k∧Below w.heap.size w wr) (fun i _=>es.length - (intOf i).toNat)
 case atStart=>exact ⟨0,by omega,rfl,Below.refl _ _⟩
 case round =>
  obtain ⟨k,hk,rfl,hbel⟩:=hrel
  have hbs:=hbel.size
  by_cases hlt:k < es.length
  ·
   obtain ⟨b,off,rfl,hb,hc⟩:=(h.below hbel).at_ hlt
   have c0:=hc 0 _ rfl
   have c1:=hc 1 _ rfl
   simp only [Nat.add_zero] at c0
   rw [HLENS.out k hlt] at c0
   have hbw:b < wr.heap.size:=by omega
   clear hc
   go_wp2
   go_roundw
   case rel=>exact ⟨k+1,by omega,by go_num,hbel.alloc hbs _⟩
   case measure=>simp [intOf]; omega
  ·
   obtain rfl:k = es.length:=by omega
   go_wp2
   go_loopw [32] (fun i wr2=>∃ k:Nat,k≤es.length∧i = .int .i64 k∧Below w.heap.size w wr2) (fun i _=>es.length - (intOf i).toNat)
   case atStart=>exact ⟨0,by omega,rfl,hbel⟩
   case round =>
    rename World=>w2
    clear hbel hbs hk hlt
    obtain ⟨k,hk,rfl,hbel⟩:=hrel
    have hbs:=hbel.size
    by_cases hlt:k < es.length
    ·
     obtain ⟨b,off,rfl,hb,hc⟩:=(h.below hbel).at_ hlt
     have c0:=hc 0 _ rfl
     have c1:=hc 1 _ rfl
     simp only [Nat.add_zero] at c0
     rw [HLENS.out k hlt] at c0
     have hbw:b < w2.heap.size:=by omega
     obtain ⟨b',off',hA',_,hc'⟩:=(h.below hbel).at_ hl0
     injection hA' with hA'
     injection hA' with e1 e2
     subst e1 e2
     have d0:=hc' 0 _ rfl
     simp only [Nat.add_zero,Nat.zero_mul] at d0
     rw [HLENS.out 0 hl0] at d0
     have hi0:(0:Int) < (es.length:Int):=by omega
     clear hc hc'
     go_wp2
     go_quiet (fail)
     go_wp2
     go_roundw
     case rel=>exact ⟨k+1,by omega,by go_num,below_drewN (hbel.alloc hbs _) _⟩
     case measure=>simp [intOf]; omega
    ·
     obtain rfl:k = es.length:=by omega
     go_wp2
     go_loopw [48] (fun i wr3=>∃ k:Nat,k≤es.length∧i = .int .i64 k∧Below w.heap.size w wr3) (fun i _=>es.length - (intOf i).toNat)
     case atStart=>exact ⟨0,by omega,rfl,hbel⟩
     case round =>
      rename World=>w3
      clear hbel hbs hk hlt
      obtain ⟨k,hk,rfl,hbel⟩:=hrel
      have hbs:=hbel.size
      by_cases hlt:k < es.length
      ·
       obtain ⟨b,off,rfl,hb,hc⟩:=(h.below hbel).at_ hlt
       have c0:=hc 0 _ rfl
       have c1:=hc 1 _ rfl
       simp only [Nat.add_zero] at c0
       have hbw:b < w3.heap.size:=by omega
       obtain ⟨x0,x1⟩:=HBASE.out k hlt
       clear hc
       go_wp2_with fail
       refine (earnP28 _ _ x0 x1).mono ?_
       rintro e w' ⟨rfl,rfl⟩
       have hB4:=Blk.new w3 137 #[.slice es[k].A es[k].l.length es[k].cap,.int .i64 es[k].base]
       have hbel4:=hbel.alloc hbs (.cells #[.slice es[k].A es[k].l.length es[k].cap,.int .i64 es[k].base] 137)
       generalize w3.alloc (.cells #[.slice es[k].A es[k].l.length es[k].cap,.int .i64 es[k].base] 137) = w4 at hB4 hbel4 ⊢
       have z0:=hB4.cell 0
       have z1:=hB4.cell 1
       simp only [nqg,nqh,nqi] at z0 z1
       have hl52:es[k].l.length≤52:=by rw [HLENS.out k hlt]; exact hn52
       have hEk:=((HIN.out _ (List.getElem_mem hlt)).below hbel4).more hbel4.size
       clear c0 c1 hB4
       go_wp2
       go_loop [59] (fun i=>∃ q:Nat,q≤es[k].l.length∧i = .int .i64 q) (fun i=>es[k].l.length - (intOf i).toNat)
       case atStart=>exact ⟨0,by omega,rfl⟩
       case round =>
        obtain ⟨q,hq,rfl⟩:=hrel
        by_cases hlq:q < es[k].l.length
        ·
         obtain ⟨b5,off5,hAq,hb5,hc5⟩:=hEk.at_ hlq
         have d0:=hc5 0 _ rfl
         simp only [Nat.add_zero,Nat.mul_one] at d0
         obtain ⟨y0,y1⟩:=HEARL.out k hlt _ (List.getElem_mem hlq)
         rw [hAq]
         clear hc5
         go_wp2_with fail
         refine (earnP28 _ _ y0 y1).mono ?_
         rintro e w' ⟨rfl,rfl⟩
         go_wp2
         go_round
         case rel=>exact ⟨q+1,by omega,by go_num⟩
         case measure=>simp [intOf]; omega
        ·
         obtain rfl:q = es[k].l.length:=by omega
         go_wp2
         go_roundw
         case rel=>exact ⟨k+1,by omega,by go_num,hbel4⟩
         case measure=>simp [intOf]; omega
      ·
       obtain rfl:k = es.length:=by omega
       go_wp2
       go_ret
       exact ⟨rfl,hbel⟩
theorem basesJ_at {es:List EmpC} {k:Nat} (h:k < es.length) : (basesJ (es.map EmpC.v)).getD k 0 = es[k].base:=by
 simp [basesJ,List.getD_eq_getElem?_getD,List.getElem?_map,List.getElem?_eq_getElem h,EmpC.v]
theorem basesJ_len (es:List EmpC) : (basesJ (es.map EmpC.v)).length = es.length:=by simp [basesJ]
set_option maxRecDepth 100000 in
set_option maxHeartbeats 8000000 in
theorem jointP (s:SchT) (A:Option Addr) (cap n : Nat) (es:List EmpC) (w:World) (h:SliceOf encEm 2 w w.heap.size A es) (hin : ∀ e ∈ es,SliceOf encI 1 w w.heap.size e.A e.l) (hs:SchOk s) (hE:EmpsOk n (es.map EmpC.v)) :
  Calls Tryz.prog 107 #[.agg #[.string s.code,.int .i64 s.employee,.int .i64 s.employer,.int .i64 s.floor,.int .i64 s.ceiling,.int .i64 s.unit,.int .i64 s.mode,.bool s.deductible],.slice A es.length cap] w (LvPostF (jointL s n (es.map EmpC.v)) (jointE s n (es.map EmpC.v)) w):=by
 have hl8:es.length≤8:=by have:=hE.len; simpa using this
 have hl0:0 < es.length:=by have:=hE.ne; simpa using this
 have hn52:=hE.nn
 have HE:=Lib.hid hE
 have HS:=Lib.hid hs
 have HIN:=Lib.hid hin
 have HLENS:Hid (∀ k,(hk:k < es.length)→es[k].l.length = n):=fun k hk=>hE.lens (es[k].v) (List.mem_map.2 ⟨_,List.getElem_mem hk,rfl⟩)
 have HBASE:Hid (∀ k,(hk:k < es.length)→0≤es[k].base∧es[k].base≤1000000000):=fun k hk=>hE.base (es[k].v) (List.mem_map.2 ⟨_,List.getElem_mem hk,rfl⟩)
 have HEARL:Hid (∀ k,(hk:k < es.length)→∀ x ∈ es[k].l,0≤x∧x≤1000000000):=fun k hk=>hE.earlier (es[k].v) (List.mem_map.2 ⟨_,List.getElem_mem hk,rfl⟩)
 have HJE:=Lib.hid (fun w' hb=>jointErrP A cap n es w' (h.adv hb) (fun e he=>(hin e he).adv hb) hE)
 have HPOST:Hid (∀ e w',LvPostF (jointL s n (es.map EmpC.v)) (jointE s n (es.map EmpC.v)) w e w'→LvPostF (jointL s n (es.map EmpC.v)) (jointE s n (es.map EmpC.v)) w e w'):=fun _ _ h=>h
 generalize hPP:LvPostF (jointL s n (es.map EmpC.v)) (jointE s n (es.map EmpC.v)) w = POST at HPOST ⊢
 have HPP:=Lib.hid hPP
 clear hE hs hin hPP HPOST
 have hmk1:=make_intsE (n+1) ((n:Int)+1) (by omega) (by omega)
 have hmk2:=make_ints es.length (by omega)
 go_enter Tryz.func107,Tryz.ntmps107
 go_upto_region 1 with fail
 have hB:=Blk.new w 123 #[.string s.code,.int .i64 s.employee,.int .i64 s.employer,.int .i64 s.floor,.int .i64 s.ceiling,.int .i64 s.unit,.int .i64 s.mode,.bool s.deductible]
 have hbel:=below_new w (.cells #[.string s.code,.int .i64 s.employee,.int .i64 s.employer,.int .i64 s.floor,.int .i64 s.ceiling,.int .i64 s.unit,.int .i64 s.mode,.bool s.deductible] 123)
 generalize w.alloc (.cells #[.string s.code,.int .i64 s.employee,.int .i64 s.employer,.int .i64 s.floor,.int .i64 s.ceiling,.int .i64 s.unit,.int .i64 s.mode,.bool s.deductible] 123) = W at hB hbel ⊢
 have z0:=hB.cell 0
 have z1:=hB.cell 1
 have z2:=hB.cell 2
 have z3:=hB.cell 3
 have z4:=hB.cell 4
 have z5:=hB.cell 5
 have z6:=hB.cell 6
 have z7:=hB.cell 7
 simp only [nqg,nqh,nqi] at z0 z1 z2 z3 z4 z5 z6 z7
 go_wp2_with fail
 refine (validP28 s W HS.out).mono ?_
 rintro e w1 ⟨rfl,hb1⟩
 have hB1:=hB.adv hb1
 have hbel1:=bel_adv hbel hb1
 clear hB hbel hb1 z0 z1 z2 z3 z4 z5 z6 z7
 go_wp2_with fail
 refine Calls.mono (HJE.out w1 hbel1) ?_
 rintro e w2 ⟨rfl,hb2⟩
 have hB2:=hB1.adv hb2
 have hbel2:=bel_adv hbel1 hb2
 have hws2:=hbel2.size
 have hB2l:=hB2.lt
 clear hB1 hbel1 hb2 HJE
 obtain ⟨b,off,hAe,hb,hc⟩:=(h.below hbel2).at_ hl0
 subst hAe
 have d0:=hc 0 _ rfl
 simp only [Nat.add_zero,Nat.zero_mul] at d0
 rw [HLENS.out 0 hl0] at d0
 have hi0:(0:Int) < (es.length:Int):=by omega
 clear hc
 go_upto_region 8 with fail
 have e1:(w2.alloc (.cells (madeCells #[.int .i64 0] (n+1)) 3)).heap.size = w2.heap.size+1:=by simp
 have hR1:=(RowI.made w2 (n+1)).alloc (.cells (madeCells #[.int .i64 0] es.length) 3)
 have hR2:=RowI.made (w2.alloc (.cells (madeCells #[.int .i64 0] (n+1)) 3)) es.length
 have hB3:=(hB2.alloc (.cells (madeCells #[.int .i64 0] (n+1)) 3)).alloc (.cells (madeCells #[.int .i64 0] es.length) 3)
 have hbel3:=bel_alloc (bel_alloc hbel2 (.cells (madeCells #[.int .i64 0] (n+1)) 3)) (.cells (madeCells #[.int .i64 0] es.length) 3)
 rw [e1] at hR2
 generalize (w2.alloc (.cells (madeCells #[.int .i64 0] (n+1)) 3)).alloc (.cells (madeCells #[.int .i64 0] es.length) 3) = w3 at hR1 hR2 hB3 hbel3 ⊢
 obtain ⟨gp,hgp⟩ : ∃ g,g = w2.heap.size:=⟨_,rfl⟩
 obtain ⟨gb,hgb⟩ : ∃ g,g = gp+1:=⟨_,rfl⟩
 rw [← hgp,← hgb] at hR2
 rw [← hgp] at hR1
 rw [← hgp,← hgb]
 have n1:gp ≠ gb:=by omega
 have n2:w.heap.size ≠ gp:=by omega
 have n3:w.heap.size ≠ gb:=by omega
 have n4:w.heap.size≤gp:=by omega
 have n5:w.heap.size≤gb:=by omega
 have n6:b < gp:=by omega
 rw [← upto_zero (basesJ (es.map EmpC.v)) es.length] at hR2
 clear hgp hgb e1 d0 hB2 hbel2 hws2 hB2l hmk1 hmk2
 go_wp2
 go_loopw [35] (fun i wr=>∃ k:Nat,k≤es.length∧i = .int .i64 k∧RowI wr gp (sumsJ n ((es.map EmpC.v).take k))∧RowI wr gb (upto (basesJ (es.map EmpC.v)) es.length k)∧Blk wr w.heap.size 123 #[.string s.code,.int .i64 s.employee,.int .i64 s.employer,.int .i64 s.floor,.int .i64 s.ceiling,.int .i64 s.unit,.int .i64 s.mode,.bool s.deductible]∧Below w.heap.size w wr) (fun i _=>es.length - (intOf i).toNat)
 case atStart=>exact ⟨0,by omega,rfl,hR1,hR2,hB3,hbel3⟩
 case round =>
  clear hR1 hR2 hB3 hbel3
  obtain ⟨k,hk,rfl,hP,hQ,hBw,hbel⟩:=hrel
  have hbs:=hbel.size
  obtain ⟨S,hSe⟩ : ∃ S,S = sumsJ n ((es.map EmpC.v).take k):=⟨_,rfl⟩
  have HSL:Hid (S.length = n+1):=by rw [hSe]; exact (HE.out.take k).1
  have HS0:Hid (∀ i,0≤S.getD i 0):=fun i=>by rw [hSe]; exact getD_nonneg (HE.out.take k).2 i
  have HS9:Hid (∀ i,i < n+1→S.getD i 0≤8000000000):=fun i hi=>by
   rw [hSe]
   have:=HE.out.sums_hi k (by simpa using hk) i hi
   omega
  by_cases hlt:k < es.length
  ·
   obtain ⟨b',off',hA2,hbb,hc⟩:=(h.below hbel).at_ hlt
   injection hA2 with hA2
   injection hA2 with hA2 hA3
   subst hA2 hA3
   have c0:=hc 0 _ rfl
   have c1:=hc 1 _ rfl
   simp only [Nat.add_zero] at c0
   have hbw:b < wr.heap.size:=by omega
   have hql:=HLENS.out k hlt
   have hki:(k:Int) < (es.length:Int):=by omega
   have HST:=Lib.hid (sumsJ_take n (es.map EmpC.v) k (by simpa using hlt))
   rw [mapv_get hlt,← hSe] at HST
   rw [← hSe] at hP
   have HBA:=Lib.hid (basesJ_at hlt)
   have HQL:=Lib.hid hql
   rw [hql] at c0
   clear hql
   obtain ⟨p0,p1⟩:=HBASE.out k hlt
   have hEk:=(HIN.out _ (List.getElem_mem hlt)).below hbel
   clear hc hSe
   go_upto_region 12 with fail
   have hBm:=Blk.new wr 137 #[.slice es[k].A n es[k].cap,.int .i64 es[k].base]
   have hbM:=below_new wr (.cells #[.slice es[k].A n es[k].cap,.int .i64 es[k].base] 137)
   have hP4:=hP.alloc (.cells #[.slice es[k].A n es[k].cap,.int .i64 es[k].base] 137)
   have hQ4:=hQ.alloc (.cells #[.slice es[k].A n es[k].cap,.int .i64 es[k].base] 137)
   have hB4:=hBw.alloc (.cells #[.slice es[k].A n es[k].cap,.int .i64 es[k].base] 137)
   have hbel4:=bel_alloc hbel (.cells #[.slice es[k].A n es[k].cap,.int .i64 es[k].base] 137)
   have hE4:=hEk.below (hbM.mono hbs)
   have m1:=hP.lt
   have m2:=hQ.lt
   have m3:=hBw.lt
   generalize wr.alloc (.cells #[.slice es[k].A n es[k].cap,.int .i64 es[k].base] 137) = w4 at hBm hP4 hQ4 hB4 hbel4 hE4 ⊢
   obtain ⟨gm,hgm⟩ : ∃ g,g = wr.heap.size:=⟨_,rfl⟩
   rw [← hgm] at hBm
   rw [← hgm]
   have n7:gm ≠ gp:=by omega
   have n8:gm ≠ gb:=by omega
   have n9:w.heap.size≤w4.heap.size:=hbel4.size
   have hrow:=rowJ_start (x:=es[k].l) hP4 HSL.out
   clear hP hQ hBw hbel hbs hEk hbM hgm m1 m2 m3 hP4 c0 c1 hbw
   go_wp2
   go_loopw [43] (fun i wq=>∃ j:Nat,j≤n∧i = .int .i64 j∧wq.rowIs gp 3 (n+1) (rowJ S es[k].l j)∧w4.grownBy wq (some gp)) (fun i _=>n - (intOf i).toNat)
   case atStart=>exact ⟨0,by omega,rfl,hrow,only_refl _ _⟩
   case round =>
    rename World=>wq
    clear hrow
    obtain ⟨j,hj,rfl,hrow,hgq⟩:=hrel
    have hEq:=hE4.grown hgq n9 (fun g e=>by injection e; omega)
    have q0:=hrow.cell (i:=j) (by omega)
    have f0:=hrow.frozen j
    rw [rowJ,if_neg (by omega),Int.add_zero] at q0
    have s0:=HS0.out j
    have s1:=HS9.out j (by omega)
    have lq:=hrow.lt
    by_cases hltj:j < n
    ·
     have hjl:j < es[k].l.length:=by rw [HQL.out]; exact hltj
     obtain ⟨b2,off2,hA4,hb2,hc2⟩:=hEq.at_ hjl
     have d0:=hc2 0 _ rfl
     simp only [Nat.add_zero,Nat.mul_one] at d0
     have hxx:=HEARL.out k hlt _ (List.getElem_mem hjl)
     have hxe:es[k].l[j] = es[k].l.getD j 0:=by rw [List.getD_eq_getElem?_getD,List.getElem?_eq_getElem hjl]; rfl
     rw [hxe] at d0 hxx
     obtain ⟨x0,x1⟩:=hxx
     have hb2ne:b2 ≠ gp:=by omega
     have hji:(j:Int) < (n:Int):=by omega
     have hji2:(j:Int) < (n:Int)+1:=by omega
     have HROW:=Lib.hid (rowJ_next hrow)
     have HGQ:=Lib.hid (only_setCell (p:=⟨gp,j,none⟩) hgq (.inl rfl) (.int .i64 (S.getD j 0+es[k].l.getD j 0)))
     rw [hA4]
     clear hc2 hrow hgq hxe hEq
     generalize S.getD j 0 = sj at *
     generalize es[k].l.getD j 0 = xj at *
     go_wp2
     go_roundw
     case rel=>exact ⟨j+1,by omega,by go_num,HROW.out,HGQ.out⟩
     case measure=>simp [intOf]; omega
    ·
     obtain rfl:n = j:=by omega
     have hQq:=hQ4.grown hgq (fun e=>n1 (by injection e with e; exact e.symm))
     have hBq:=hB4.grown hgq (fun e=>n2 (by injection e))
     have hMq:=hBm.grown hgq (fun e=>n7 (by injection e))
     have hbq:=bel_only hbel4 hgq (fun g e=>by injection e; omega)
     have lm:=hMq.lt
     have z0:=hMq.cell 0
     have z1:=hMq.cell 1
     simp only [nqg,nqh,nqi] at z0 z1
     clear hgq hQ4 hB4 hBm hbel4 hE4 hEq
     have hnw:(((n+1:Nat) : Int) - 1) = (n:Int):=by omega
     have hnn:(n:Int) < (n:Int)+1:=by omega
     obtain ⟨sn,hsn⟩ : ∃ x,x = S.getD n 0:=⟨_,rfl⟩
     rw [← hsn] at q0 s0 s1
     have HSN:=Lib.hid hsn
     clear hsn
     go_upto_region 16 with fail
     refine wp_region_fin (aE:=?aE1) [0,1,2,3,4,5,6,7,8,9] 10 (by kernel_rfl) (by kernel_rfl) rfl (by kernel_rfl) (by rfl) (by kernel_rfl) (by kernel_rfl) rfl rfl rfl ?H1 ?M1
     case H1 =>
      intro F hF inst
      simp only [M3.opsAt,List.getElem?_toArray,List.getElem?_cons_zero,List.getElem?_cons_succ]
      have e0:=BwC.cellB (F:=F) (a:=⟨gp,n,none⟩) (by exact lq) q0
      have e1:=BwC.cellB (F:=F) (a:=⟨gm,1,none⟩) (by exact lm) z1
      repeat (first | go_big_quiet_step (first | fail) | quiet_step (first | fail))
      refine wpQuiet_nil ?_
      rfl
     case M1 =>
      intro w5 hb5
      have hrow5:=World.rowIs.of_block hrow (hb5.block gp lq)
      have hQ5:=hQq.adv hb5
      have hB5:=hBq.adv hb5
      have hM5:=hMq.adv hb5
      have hbel5:=bel_adv hbq hb5
      have y0:=hrow5.cell (i:=n) (by omega)
      rw [rowJ,if_neg (by omega),Int.add_zero,← HSN.out] at y0
      have fy:=hrow5.frozen n
      have ly:=hrow5.lt
      refine ⟨w5.setCell ⟨gp,n,none⟩ (.int .i64 (sn+es[k].base)),by go_simp,?_⟩
      have hP6:=rowJ_end (b:=es[k].base) hrow5 HSL.out HQL.out
      rw [← HST.out,← HSN.out] at hP6
      have hQ6:=hQ5.far (p:=⟨gp,n,none⟩) (fun e=>n1 e.symm) (.int .i64 (sn+es[k].base))
      have hB6:=hB5.far (p:=⟨gp,n,none⟩) n2 (.int .i64 (sn+es[k].base))
      have hM6:=hM5.far (p:=⟨gp,n,none⟩) n7 (.int .i64 (sn+es[k].base))
      have hbel6:=bel_set hbel5 n4 n (.int .i64 (sn+es[k].base))
      generalize w5.setCell ⟨gp,n,none⟩ (.int .i64 (sn+es[k].base)) = w6 at hP6 hQ6 hB6 hM6 hbel6 ⊢
      clear hrow hrow5 hQ5 hB5 hM5 hbel5 y0 fy ly hQq hBq hMq hbq q0 f0 lq lm z0 z1 hb5
      have u0:=hQ6.cell (i:=k) (by rw [upto_len _ _ _ (basesJ_len es) (by omega)]; exact hlt)
      have fu:=hQ6.frozen k
      have lu:=hQ6.lt
      generalize (upto (basesJ (es.map EmpC.v)) es.length k).getD k 0 = ub at u0
      have z0:=hM6.cell 0
      have z1:=hM6.cell 1
      simp only [nqg,nqh,nqi] at z0 z1
      have HP6:=Lib.hid hP6
      have HQ6:=Lib.hid (hQ6.upto_next (basesJ_len es) hlt HBA.out.symm)
      have HB6:=Lib.hid hB6
      have HL6:=Lib.hid hbel6
      clear hP6 hQ6 hB6 hM6 hbel6
      go_wp2
      go_roundw
      case rel=>exact ⟨k+1,by omega,by go_num,HP6.out.far (p:=⟨gb,k,none⟩) n1 _,HQ6.out,HB6.out.far (p:=⟨gb,k,none⟩) n3 _,bel_set HL6.out n5 _ _⟩
      case measure=>simp [intOf]; omega
  ·
   obtain rfl:k = es.length:=by omega
   have hxs:sumsJ n ((es.map EmpC.v).take es.length) = sumsJ n (es.map EmpC.v):=by rw [List.take_of_length_le (by simp)]
   rw [hSe,hxs] at HSL HS0 HS9
   rw [hxs] at hP
   rw [upto_all _ _ (basesJ_len es)] at hQ
   clear hSe hxs hk hlt
   obtain ⟨X,hX⟩ : ∃ X,X = sumsJ n (es.map EmpC.v):=⟨_,rfl⟩
   obtain ⟨Y,hY⟩ : ∃ Y,Y = basesJ (es.map EmpC.v):=⟨_,rfl⟩
   have HJV:Hid (nextN s X = jointV s n (es.map EmpC.v)):=by rw [hX]; rfl
   have hXl:X.length = n+1:=by rw [hX]; exact HSL.out
   have hYl:Y.length = es.length:=by rw [hY]; exact basesJ_len es
   have hXb:∀ x ∈ X,0≤x∧x≤8000000000:=fun x hx=>by
    obtain ⟨i,hi,rfl⟩:=List.mem_iff_getElem.1 hx
    have h1:=HS0.out i
    have h2:=HS9.out i (by omega)
    rw [← hX,List.getD_eq_getElem?_getD,List.getElem?_eq_getElem hi] at h1 h2
    exact ⟨h1,h2⟩
   have hYb:∀ x ∈ Y,0≤x∧x≤1000000000:=fun x hx=>by rw [hY] at hx; exact bases_bd HE.out x hx
   rw [← hX] at hP
   rw [← hY] at hQ
   have hJB:=jointV_bd HS.out HE.out
   rw [← HJV.out] at hJB
   have hlast:=lastP28 s (some ⟨gp,0,none⟩) (n+1) X wr hP.slice (by intro e; rw [e] at hXl; simp at hXl) (by omega) (by omega) hXb HS.out
   rw [hXl] at hlast
   have HLAST:=Lib.hid hlast
   have HD:Hid (∀ (w':World) (v:LevyT),Below w.heap.size w w'→RowI w' gb Y→v = nextN s X→Calls Tryz.prog 163 #[.agg #[.int .i64 v.base,.int .i64 v.employee,.int .i64 v.employer],.slice (some ⟨gb,0,none⟩) es.length es.length] w' fun e w2=>(∃ v1 v2,e = .returned (.tuple #[v1,v2]))∧POST e w2):=fun w' v hb hr hv=>by
    have hd:=divideLv v (some ⟨gb,0,none⟩) es.length Y w' hr.slice hYb (by omega) (by omega) (by rw [hv]; exact hJB.1) (by rw [hv]; exact hJB.2.1) (by rw [hv]; exact hJB.2.2.1)
    rw [hYl] at hd
    refine hd.mono fun e w2 ⟨A2,c2,q1,q2,q3,q4,q5⟩=>⟨⟨_,_,q1⟩,?_⟩
    rw [← HPP.out]
    have hv2:v = jointV s n (es.map EmpC.v):=by rw [hv,HJV.out]
    subst hv2
    have e1:jointL s n (es.map EmpC.v) = if overJ (jointV s n (es.map EmpC.v)) then [] else divN (jointV s n (es.map EmpC.v)) Y:=by rw [hY]; rfl
    exact ⟨A2,c2,by rw [e1]; exact q1,by rw [e1]; exact q2,by rw [e1]; exact q3,fun a ha=>Nat.le_trans hb.size (q4 a ha),bel_adv hb q5⟩
   clear hlast hX hY hXl hYl hXb hYb hJB HIN HLENS HBASE HEARL HSL HS0 HS9 h HPP HE
   generalize nextN s X = lv at *
   have z0:=hBw.cell 0
   have z1:=hBw.cell 1
   have z2:=hBw.cell 2
   have z3:=hBw.cell 3
   have z4:=hBw.cell 4
   have z5:=hBw.cell 5
   have z6:=hBw.cell 6
   have z7:=hBw.cell 7
   simp only [nqg,nqh,nqi] at z0 z1 z2 z3 z4 z5 z6 z7
   go_wp2_with fail
   refine Calls.mono HLAST.out ?_
   rintro e w7 ⟨rfl,hb7⟩
   have hQ7:=(hQ.adv hb7).alloc (.cells #[.int .i64 lv.base,.int .i64 lv.employee,.int .i64 lv.employer] 142)
   have hbel7:=bel_alloc (bel_adv hbel hb7) (.cells #[.int .i64 lv.base,.int .i64 lv.employee,.int .i64 lv.employer] 142)
   have hB7:=Blk.new w7 142 #[.int .i64 lv.base,.int .i64 lv.employee,.int .i64 lv.employer]
   clear hP hQ hBw hbel hb7 z0 z1 z2 z3 z4 z5 z6 z7 HLAST
   go_upto_region 20 with fail
   generalize w7.alloc (.cells #[.int .i64 lv.base,.int .i64 lv.employee,.int .i64 lv.employer] 142) = w8 at hQ7 hbel7 hB7 ⊢
   have z0:=hB7.cell 0
   have z1:=hB7.cell 1
   have z2:=hB7.cell 2
   simp only [nqg,nqh,nqi] at z0 z1 z2
   go_wp2_with fail
   refine Calls.mono (HD.out w8 lv hbel7 hQ7 rfl) ?_
   rintro e w9 ⟨⟨v1,v2,rfl⟩,hP9⟩
   go_wp2
   exact hP9
end Go.Proofs.YtlhkojcmcmkmaaaGreat
