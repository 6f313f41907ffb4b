/- Joined texts: P32 P32b P32c. Conditions: as stated. -/
import Derived.Test.YtlhkojcmcmkmaaaGreatJDedV
import Derived.Test.YtlhkojcmcmkmaaaGreatJMix4
import Derived.Test.YtlhkojcmcmkmaaaGreatJP31
import Derived.Test.YtlhkojcmcmkmaaaGreatJP30
import Derived.Test.YtlhkojcmcmkmaaaGreatJP28
namespace Go.Proofs.YtlhkojcmcmkmaaaGreat
open Go.RowKit
set_option maxHeartbeats 400000 in
theorem amtP32 (n:Int) (w:World) (h0:0≤n) (h1:n≤1000000000) : Calls Tryz.prog 68 #[.int .i64 n] w fun e w'=>e = .returned (.bool true)∧w = w':=by
 go_enter Tryz.func68,Tryz.ntmps68
 go_wp2
 go_ret
 exact ⟨rfl,rfl⟩
set_option maxRecDepth 100000 in
set_option maxHeartbeats 4000000 in
theorem validP32 (m:RulesM) (w:World) (h:m.In w) (hR:RulesOk m.t) : Calls Tryz.prog 99 #[m.val] w fun e w'=>e = .returned (.bool true)∧Below w.heap.size w w':=by
 have HR:=Lib.hid hR
 have hv:validB m.ws = true:=hR.wages
 obtain ⟨hwl,hwz⟩:=validB_facts hv
 have hsl:m.ss.length≤12:=hR.nsch
 have c0':1≤m.count:=hR.c0
 have c1':m.count≤53:=hR.c1
 have v0:0≤m.recover:=hR.v0
 have v1:m.recover≤1000000:=hR.v1
 have HW:Hid (∀ W,Below w.heap.size w W→Calls Tryz.prog 153 #[.slice m.Aw m.ws.length m.cw] W fun e w'=>e = .returned (.bool true)∧Below W.heap.size W w'):=fun W hb=>by
  have:=valid_any m.Aw m.cw m.ws W (h.ws.adv hb) hwz (by omega)
  rwa [hv] at this
 have HT:Hid (∀ W,Below w.heap.size w W→Calls Tryz.prog 155 #[.agg #[.int .i64 m.tm.t.method,.slice m.tm.Ab m.tm.t.brs.length m.tm.cb,.int .i64 m.tm.t.allowance,.int .i64 m.tm.t.credit,.int .i64 m.tm.t.unit,.int .i64 m.tm.t.mode,.slice m.tm.Ar m.tm.t.rows.length m.tm.cr]] W fun e w'=>e = .returned (.bool true)∧Below W.heap.size W w'):=fun W hb=>validP30 m.tm W (h.tm.adv hb) hR.tar
 have HS:Hid (∀ W,Calls Tryz.prog 113 #[.agg #[.int .i64 m.sh.fixed,.int .i64 m.sh.dependent,.int .i64 m.sh.lower,.int .i64 m.sh.share,.int .i64 m.sh.top]] W fun e w'=>e = .returned (.bool true)∧Below W.heap.size W w'):=fun W=>shieldP31 m.sh W hR.sh
 clear hR hv hwz
 unfold RulesM.val
 go_enter Tryz.func99,Tryz.ntmps99
 have hB:=Blk.new w 45 #[.slice m.Aw m.ws.length m.cw,.slice m.As m.ss.length m.cs,.int .i64 m.tm.t.method,.slice m.tm.Ab m.tm.t.brs.length m.tm.cb,.int .i64 m.tm.t.allowance,.int .i64 m.tm.t.credit,.int .i64 m.tm.t.unit,.int .i64 m.tm.t.mode,.slice m.tm.Ar m.tm.t.rows.length m.tm.cr,.int .i64 m.count,.int .i64 m.sh.fixed,.int .i64 m.sh.dependent,.int .i64 m.sh.lower,.int .i64 m.sh.share,.int .i64 m.sh.top,.int .i64 m.recover]
 have hbel:=below_new w (.cells #[.slice m.Aw m.ws.length m.cw,.slice m.As m.ss.length m.cs,.int .i64 m.tm.t.method,.slice m.tm.Ab m.tm.t.brs.length m.tm.cb,.int .i64 m.tm.t.allowance,.int .i64 m.tm.t.credit,.int .i64 m.tm.t.unit,.int .i64 m.tm.t.mode,.slice m.tm.Ar m.tm.t.rows.length m.tm.cr,.int .i64 m.count,.int .i64 m.sh.fixed,.int .i64 m.sh.dependent,.int .i64 m.sh.lower,.int .i64 m.sh.share,.int .i64 m.sh.top,.int .i64 m.recover] 45)
 go_upto_region 1 with fail
 generalize w.alloc (Obj.cells _ _) = W at hB hbel ⊢
 have z0:=hB.cell 0
 have z1:=hB.cell 1
 have z2:=hB.cell 2
 have z3:=hB.cell 3
 have z4:=hB.cell 4
 have z5:=hB.cell 5
 have z6:=hB.cell 6
 have z7:=hB.cell 7
 have z8:=hB.cell 8
 have z9:=hB.cell 9
 have z10:=hB.cell 10
 have z11:=hB.cell 11
 have z12:=hB.cell 12
 have z13:=hB.cell 13
 have z14:=hB.cell 14
 have z15:=hB.cell 15
 simp only [nqg,nqh,nqi] at z0 z1 z2 z3 z4 z5 z6 z7 z8 z9 z10 z11 z12 z13 z14 z15
 go_wp2_with fail
 refine (HW.out _ hbel).mono ?_
 rintro e w1 ⟨rfl,hb1⟩
 have hB1:=hB.adv hb1
 have hbel1:=bel_adv hbel hb1
 clear hB hbel hb1 z0 z1 z2 z3 z4 z5 z6 z7 z8 z9 z10 z11 z12 z13 z14 z15
 have z1:=hB1.cell 1
 simp only [nqg,nqh,nqi] at z1
 have hs1:=h.ss.adv hbel1
 go_wp2_with fail
 go_loopw [18] (fun i wr=>∃ k:Nat,k≤m.ss.length∧i = .int .i64 k∧Below w1.heap.size w1 wr) (fun i _=>m.ss.length - (intOf i).toNat)
 case atStart=>exact ⟨0,by omega,rfl,Below.refl _ _⟩
 case round =>
  rename World=>wr
  obtain ⟨k,hk,rfl,hb4⟩:=hrel
  have hB4:=hB1.adv hb4
  have hlB:=hB4.lt
  clear z1
  have z1:=hB4.cell 1
  simp only [nqg,nqh,nqi] at z1
  by_cases hlt:k < m.ss.length
  ·
   obtain ⟨b,off,hA,hb,hc⟩:=(hs1.adv hb4).at_ hlt
   have c0:=hc 0 _ rfl
   have c1:=hc 1 _ rfl
   have c2:=hc 2 _ rfl
   have c3:=hc 3 _ rfl
   have c4:=hc 4 _ rfl
   have c5:=hc 5 _ rfl
   have c6:=hc 6 _ rfl
   have c7:=hc 7 _ rfl
   simp only [Nat.add_zero] at c0
   have hki:(k:Int) < (m.ss.length:Int):=by omega
   clear hc
   have HV28:=Lib.hid (fun W=>validP28 m.ss[k] W (HR.out.sch _ (List.getElem_mem hlt)))
   rw [hA] at z1
   rcases k with _ | n
   ·
    have hk0:(0:Int) < (m.ss.length:Int):=by omega
    simp only [Nat.zero_mul,Nat.add_zero] at c0 c1 c2 c3 c4 c5 c6 c7
    have hBo:=Blk.new wr 123 #[.string m.ss[0].code,.int .i64 m.ss[0].employee,.int .i64 m.ss[0].employer,.int .i64 m.ss[0].floor,.int .i64 m.ss[0].ceiling,.int .i64 m.ss[0].unit,.int .i64 m.ss[0].mode,.bool m.ss[0].deductible]
    have hbn:=below_new wr (.cells #[.string m.ss[0].code,.int .i64 m.ss[0].employee,.int .i64 m.ss[0].employer,.int .i64 m.ss[0].floor,.int .i64 m.ss[0].ceiling,.int .i64 m.ss[0].unit,.int .i64 m.ss[0].mode,.bool m.ss[0].deductible] 123)
    go_upto_region 6 with fail
    generalize wr.alloc (Obj.cells _ _) = W1 at hBo hbn ⊢
    have hlo:=hBo.lt
    have hW1:Below w1.heap.size w1 W1:=bel_adv hb4 hbn
    have hBB:=hB4.adv hbn
    have hlb2:=hBB.lt
    have q0:=Bw.cell (w:=W1) (a:=⟨wr.heap.size,0,none⟩) hlo (hBo.cell 0)
    have q1:=Bw.cell (w:=W1) (a:=⟨wr.heap.size,1,none⟩) hlo (hBo.cell 1)
    have q2:=Bw.cell (w:=W1) (a:=⟨wr.heap.size,2,none⟩) hlo (hBo.cell 2)
    have q3:=Bw.cell (w:=W1) (a:=⟨wr.heap.size,3,none⟩) hlo (hBo.cell 3)
    have q4:=Bw.cell (w:=W1) (a:=⟨wr.heap.size,4,none⟩) hlo (hBo.cell 4)
    have q5:=Bw.cell (w:=W1) (a:=⟨wr.heap.size,5,none⟩) hlo (hBo.cell 5)
    have q6:=Bw.cell (w:=W1) (a:=⟨wr.heap.size,6,none⟩) hlo (hBo.cell 6)
    have q7:=Bw.cell (w:=W1) (a:=⟨wr.heap.size,7,none⟩) hlo (hBo.cell 7)
    have e1:=Bw.cell (w:=W1) (a:=⟨w.heap.size,1,none⟩) hlb2 (hBB.cell 1)
    rw [hA] at e1
    clear z1 c0 c1 c2 c3 c4 c5 c6 c7 hBo hBB
    refine wp_region_below (by kernel_rfl) (by kernel_rfl) ?_
    repeat (first | go_big_quiet_step (exact Bw.call _ (HV28.out _)))
    refine wpQuiet_nil ?_
    intro W2 hw'
    obtain ⟨⟨W9,hW2⟩,hw''⟩:=hw'
    subst hw''
    have hW3:Below w1.heap.size w1 W2:=bel_adv hW1 hW2
    go_wp2
    go_roundw
    case rel=>exact ⟨0+1,by omega,by go_num,hW3⟩
    case measure=>simp [intOf]; omega
   ·
    have hlm:n < m.ss.length:=by omega
    obtain ⟨b2,off2,hA3,hb2,hc2⟩:=(hs1.adv hb4).at_ hlm
    rw [hA] at hA3
    injection hA3 with hA3
    injection hA3 with hA3 hA4
    subst hA3 hA4
    have p0:=hc2 0 _ rfl
    simp only [Nat.add_zero] at p0
    clear hc2
    have hasc:=List.pairwise_iff_getElem.1 HR.out.asc n (n+1) hlm hlt (by omega)
    have hasc':Op.bytesLess m.ss[n].code.toList m.ss[n+1].code.toList = true:=hasc
    clear hasc
    have hmi:(n:Int) < (m.ss.length:Int):=by omega
    have hmi2:(n:Int)+1 < (m.ss.length:Int):=by omega
    have hp:decide ((0:Int) < (n:Int)+1) = true:=by rw [decide_eq_true_eq]; omega
    have hBo:=Blk.new wr 123 #[.string m.ss[n+1].code,.int .i64 m.ss[n+1].employee,.int .i64 m.ss[n+1].employer,.int .i64 m.ss[n+1].floor,.int .i64 m.ss[n+1].ceiling,.int .i64 m.ss[n+1].unit,.int .i64 m.ss[n+1].mode,.bool m.ss[n+1].deductible]
    have hbn:=below_new wr (.cells #[.string m.ss[n+1].code,.int .i64 m.ss[n+1].employee,.int .i64 m.ss[n+1].employer,.int .i64 m.ss[n+1].floor,.int .i64 m.ss[n+1].ceiling,.int .i64 m.ss[n+1].unit,.int .i64 m.ss[n+1].mode,.bool m.ss[n+1].deductible] 123)
    go_upto_region 6 with fail
    generalize wr.alloc (Obj.cells _ _) = W1 at hBo hbn ⊢
    have hlo:=hBo.lt
    have hW1:Below w1.heap.size w1 W1:=bel_adv hb4 hbn
    have hBB:=hB4.adv hbn
    have hlb2:=hBB.lt
    have q0:=Bw.cell (w:=W1) (a:=⟨wr.heap.size,0,none⟩) hlo (hBo.cell 0)
    have q1:=Bw.cell (w:=W1) (a:=⟨wr.heap.size,1,none⟩) hlo (hBo.cell 1)
    have q2:=Bw.cell (w:=W1) (a:=⟨wr.heap.size,2,none⟩) hlo (hBo.cell 2)
    have q3:=Bw.cell (w:=W1) (a:=⟨wr.heap.size,3,none⟩) hlo (hBo.cell 3)
    have q4:=Bw.cell (w:=W1) (a:=⟨wr.heap.size,4,none⟩) hlo (hBo.cell 4)
    have q5:=Bw.cell (w:=W1) (a:=⟨wr.heap.size,5,none⟩) hlo (hBo.cell 5)
    have q6:=Bw.cell (w:=W1) (a:=⟨wr.heap.size,6,none⟩) hlo (hBo.cell 6)
    have q7:=Bw.cell (w:=W1) (a:=⟨wr.heap.size,7,none⟩) hlo (hBo.cell 7)
    have e1:=Bw.cell (w:=W1) (a:=⟨w.heap.size,1,none⟩) hlb2 (hBB.cell 1)
    rw [hA] at e1
    have q9:=Bw.cell (w:=W1) (a:=⟨b,off+n * 8,none⟩) (by have:=hbn.size; show b < _; omega) ((hbn.cell (p:=⟨b,off+n * 8,none⟩) (by exact hb)).trans p0)
    clear p0
    clear z1 c0 c1 c2 c3 c4 c5 c6 c7 hBo hBB
    refine wp_region_below (by kernel_rfl) (by kernel_rfl) ?_
    repeat (first | go_big_quiet_step (exact Bw.call _ (HV28.out _)))
    refine wpQuiet_nil ?_
    intro W2 hw'
    obtain ⟨⟨W9,hW2⟩,hw''⟩:=hw'
    subst hw''
    have hW3:Below w1.heap.size w1 W2:=bel_adv hW1 hW2
    go_wp2
    go_roundw
    case rel=>exact ⟨n+1+1,by omega,by go_num,hW3⟩
    case measure=>simp [intOf]; omega
  ·
   clear z1
   have z0:=hB4.cell 0
   have z1:=hB4.cell 1
   have z2:=hB4.cell 2
   have z3:=hB4.cell 3
   have z4:=hB4.cell 4
   have z5:=hB4.cell 5
   have z6:=hB4.cell 6
   have z7:=hB4.cell 7
   have z8:=hB4.cell 8
   have z9:=hB4.cell 9
   have z10:=hB4.cell 10
   have z11:=hB4.cell 11
   have z12:=hB4.cell 12
   have z13:=hB4.cell 13
   have z14:=hB4.cell 14
   have z15:=hB4.cell 15
   simp only [nqg,nqh,nqi] at z0 z1 z2 z3 z4 z5 z6 z7 z8 z9 z10 z11 z12 z13 z14 z15
   have hbel4:=bel_adv hbel1 hb4
   go_wp2_with fail
   refine (HT.out _ hbel4).mono ?_
   rintro e w2 ⟨rfl,hb2⟩
   have hB2:=hB4.adv hb2
   have hbel2:=bel_adv hbel4 hb2
   clear hB4 hb2 z0 z1 z2 z3 z4 z5 z6 z7 z8 z9 z10 z11 z12 z13 z14 z15
   have z0:=hB2.cell 0
   have z1:=hB2.cell 1
   have z2:=hB2.cell 2
   have z3:=hB2.cell 3
   have z4:=hB2.cell 4
   have z5:=hB2.cell 5
   have z6:=hB2.cell 6
   have z7:=hB2.cell 7
   have z8:=hB2.cell 8
   have z9:=hB2.cell 9
   have z10:=hB2.cell 10
   have z11:=hB2.cell 11
   have z12:=hB2.cell 12
   have z13:=hB2.cell 13
   have z14:=hB2.cell 14
   have z15:=hB2.cell 15
   simp only [nqg,nqh,nqi] at z0 z1 z2 z3 z4 z5 z6 z7 z8 z9 z10 z11 z12 z13 z14 z15
   go_wp2_with fail
   refine (HS.out _).mono ?_
   rintro e w3 ⟨rfl,hb3⟩
   have hB3:=hB2.adv hb3
   have hbel3:=bel_adv hbel2 hb3
   clear hB2 hb3 z0 z1 z2 z3 z4 z5 z6 z7 z8 z9 z10 z11 z12 z13 z14 z15
   have z0:=hB3.cell 0
   have z1:=hB3.cell 1
   have z2:=hB3.cell 2
   have z3:=hB3.cell 3
   have z4:=hB3.cell 4
   have z5:=hB3.cell 5
   have z6:=hB3.cell 6
   have z7:=hB3.cell 7
   have z8:=hB3.cell 8
   have z9:=hB3.cell 9
   have z10:=hB3.cell 10
   have z11:=hB3.cell 11
   have z12:=hB3.cell 12
   have z13:=hB3.cell 13
   have z14:=hB3.cell 14
   have z15:=hB3.cell 15
   simp only [nqg,nqh,nqi] at z0 z1 z2 z3 z4 z5 z6 z7 z8 z9 z10 z11 z12 z13 z14 z15
   go_wp2
   go_ret
   exact ⟨rfl,hbel3⟩
end Go.Proofs.YtlhkojcmcmkmaaaGreat
namespace Go.Proofs.YtlhkojcmcmkmaaaGreat
open Go.RowKit
set_option maxRecDepth 100000 in
set_option maxHeartbeats 4000000 in
theorem personP32 (m:PersonM) (w:World) (h:m.In w) (hP:PersonOk m.t) : Calls Tryz.prog 100 #[m.val] w fun e w'=>e = .returned (.bool true)∧Below w.heap.size w w':=by
 have d0:0≤m.deps:=hP.d0
 have d1:m.deps≤20:=hP.d1
 have hel:m.es.length≤7:=by have:=hP.nothers; simpa [PersonM.t] using this
 have hmem:∀ e ∈ m.es,e.v ∈ m.t.others:=fun e he=>List.mem_map.2 ⟨e,he,rfl⟩
 have HE:Hid (∀ e ∈ m.es,(0≤e.base∧e.base≤1000000000)∧e.l.length≤53∧∀ x ∈ e.l,0≤x∧x≤1000000000):=fun e he=>⟨hP.base _ (hmem e he),hP.lens _ (hmem e he),hP.earlier _ (hmem e he)⟩
 have hd:validD m.ds = true:=hP.deds
 obtain ⟨hdl,hdz⟩:=ded_size hd
 have HD:Hid (∀ W,Below w.heap.size w W→Calls Tryz.prog 156 #[.slice m.Ad m.ds.length m.cd] W fun e w'=>e = .returned (.bool true)∧Below W.heap.size W w'):=fun W hb=>by
  have:=validD_any m.Ad m.cd m.ds W (h.ds.adv hb) hdz (by omega)
  rwa [hd] at this
 have HO:Hid (∀ W,Below w.heap.size w W→Calls Tryz.prog 157 #[.slice m.Ao m.os.length m.co] W fun e w'=>e = .returned (.bool true)∧Below W.heap.size W w'):=fun W hb=>ordersP31 m.Ao m.co m.os W (h.os.adv hb) hP.orders
 clear hP hd hdz hmem
 unfold PersonM.val
 go_enter Tryz.func100,Tryz.ntmps100
 have hB:=Blk.new w 50 #[.int .i64 m.deps,.slice m.Ad m.ds.length m.cd,.slice m.Ao m.os.length m.co,.slice m.Ae m.es.length m.ce]
 have hbel:=below_new w (.cells #[.int .i64 m.deps,.slice m.Ad m.ds.length m.cd,.slice m.Ao m.os.length m.co,.slice m.Ae m.es.length m.ce] 50)
 go_upto_region 1 with fail
 generalize w.alloc (Obj.cells _ _) = W at hB hbel ⊢
 have z0:=hB.cell 0
 have z1:=hB.cell 1
 have z2:=hB.cell 2
 have z3:=hB.cell 3
 simp only [nqg,nqh,nqi] at z0 z1 z2 z3
 go_wp2_with fail
 refine (HD.out _ hbel).mono ?_
 rintro e w1 ⟨rfl,hb1⟩
 have hB1:=hB.adv hb1
 have hbel1:=bel_adv hbel hb1
 clear hB hbel hb1 z0 z1 z2 z3
 have z0:=hB1.cell 0
 have z1:=hB1.cell 1
 have z2:=hB1.cell 2
 have z3:=hB1.cell 3
 simp only [nqg,nqh,nqi] at z0 z1 z2 z3
 go_wp2_with fail
 refine (HO.out _ hbel1).mono ?_
 rintro e w2 ⟨rfl,hb2⟩
 have hB2:=hB1.adv hb2
 have hbel2:=bel_adv hbel1 hb2
 clear hB1 hbel1 hb2 z0 z1 z2 z3
 have z3:=hB2.cell 3
 simp only [nqg,nqh,nqi] at z3
 have hes:=h.es.adv hbel2
 have HIN:Hid (∀ e ∈ m.es,SliceOf encI 1 w2 w2.heap.size e.A e.l):=fun e he=>(h.ins e he).adv hbel2
 clear h HD HO hB2
 go_wp2_with fail
 go_loopw [34] (fun i wr=>∃ k:Nat,k≤m.es.length∧i = .int .i64 k∧Below w2.heap.size w2 wr) (fun i _=>m.es.length - (intOf i).toNat)
 case atStart=>exact ⟨0,by omega,rfl,Below.refl _ _⟩
 case round =>
  rename World=>wr
  clear z3
  obtain ⟨k,hk,rfl,hbr⟩:=hrel
  have hbs:=hbr.size
  by_cases hlt:k < m.es.length
  ·
   obtain ⟨b,off,hA,hb,hc⟩:=(hes.adv hbr).at_ hlt
   have c0:=hc 0 _ rfl
   have c1:=hc 1 _ rfl
   simp only [Nat.add_zero] at c0
   have hki:(k:Int) < (m.es.length:Int):=by omega
   clear hc
   rw [hA]
   clear hA
   obtain ⟨⟨b0,b1⟩,hll,hlx⟩:=HE.out _ (List.getElem_mem hlt)
   have HLX:=Lib.hid hlx
   have hin:=HIN.out _ (List.getElem_mem hlt)
   have hBo:=Blk.new wr 137 #[.slice m.es[k].A m.es[k].l.length m.es[k].cap,.int .i64 m.es[k].base]
   have hbn:=below_new wr (.cells #[.slice m.es[k].A m.es[k].l.length m.es[k].cap,.int .i64 m.es[k].base] 137)
   clear hlx
   go_upto_region 8 with fail
   generalize wr.alloc (Obj.cells _ _) = W1 at hBo hbn ⊢
   have hb1:=bel_adv hbr hbn
   have hin1:=hin.adv hb1
   clear c0 c1 hbn hbr hin hbs
   have z0:=hBo.cell 0
   have z1:=hBo.cell 1
   simp only [nqg,nqh,nqi] at z0 z1
   go_wp2_with fail
   refine (amtP32 _ _ b0 b1).mono ?_
   rintro e w' ⟨rfl,rfl⟩
   go_wp2_with fail
   go_loop [51] (fun i=>∃ j:Nat,j≤m.es[k].l.length∧i = .int .i64 j) (fun i=>m.es[k].l.length - (intOf i).toNat)
   case atStart=>exact ⟨0,by omega,rfl⟩
   case round =>
    obtain ⟨j,hj,rfl⟩:=hrel
    by_cases hjl:j < m.es[k].l.length
    ·
     obtain ⟨b2,off2,hA2,hb2,hc2⟩:=hin1.at_ hjl
     have d0':=hc2 0 _ rfl
     simp only [Nat.add_zero,Nat.mul_one] at d0'
     have hji:(j:Int) < (m.es[k].l.length:Int):=by omega
     clear hc2
     rw [hA2]
     obtain ⟨x0,x1⟩:=HLX.out _ (List.getElem_mem hjl)
     go_wp2_with fail
     refine (amtP32 _ _ x0 x1).mono ?_
     rintro e w' ⟨rfl,rfl⟩
     go_wp2
     go_round
     case rel =>
      have hfin:∃ j':Nat,j'≤m.es[k].l.length∧Value.int .i64 ((j:Int)+1) = .int .i64 j':=⟨j+1,by omega,by go_num⟩
      first | exact hfin | (refine ⟨trivial,?_⟩; (repeat apply Exists.intro); exact ⟨hfin,rfl⟩) | ((repeat apply Exists.intro); exact ⟨hfin,rfl⟩)
     case measure=>simp [intOf]; omega
    ·
     go_wp2
     go_roundw
     case rel =>
      have hfin:∃ j':Nat,j'≤m.es.length∧Value.int .i64 ((k:Int)+1) = .int .i64 j'∧Below w2.heap.size w2 W1:=⟨k+1,by omega,by go_num,hb1⟩
      first | exact hfin | ((repeat apply Exists.intro); exact ⟨hfin,rfl⟩)
     case measure=>simp [intOf]; omega
  ·
   have hfin:=bel_adv hbel2 hbr
   go_wp2
   go_ret
   exact ⟨rfl,hfin⟩
set_option maxRecDepth 100000 in
set_option maxHeartbeats 4000000 in
theorem yearP32 (m:YearM) (w:World) (h:m.In w) (hY:YearOk m.t) : Calls Tryz.prog 29 #[m.val] w fun e w'=>e = .returned (.bool true)∧Below w.heap.size w w':=by
 obtain ⟨periods,income,withheld,Ai,ci,ins,At,ct,taken⟩:=m
 obtain ⟨p0,p1,hlen,hins,i0,i1,w0,w1',ht⟩:=hY
 simp only [YearM.t] at p0 p1 hlen hins i0 i1 w0 w1' ht
 obtain ⟨h1,h2⟩:=h
 simp only at h1 h2
 have HINS:=Lib.hid hins
 obtain ⟨htl,htz⟩:=rec_size ht
 have HR:Hid (∀ W,Below w.heap.size w W→Calls Tryz.prog 69 #[.slice At taken.length ct] W fun e w'=>e = .returned (.bool true)∧Below W.heap.size W w'):=fun W hb=>by
  have:=rec_any At ct taken W (h2.adv hb) htz (by omega)
  rwa [ht] at this
 have hl53:ins.length≤53:=by omega
 have hne:(periods != (ins.length:Int)) = false:=by simp [hlen]
 have hlen':=Lib.hid hlen
 clear hins ht htz hlen h2
 unfold YearM.val
 simp only
 go_enter Tryz.func29,Tryz.ntmps29
 have hB:=Blk.new w 53 #[.int .i64 periods,.int .i64 income,.int .i64 withheld,.slice Ai ins.length ci,.slice At taken.length ct]
 have hbel:=below_new w (.cells #[.int .i64 periods,.int .i64 income,.int .i64 withheld,.slice Ai ins.length ci,.slice At taken.length ct] 53)
 go_upto_region 1 with fail
 generalize w.alloc (Obj.cells _ _) = W at hB hbel ⊢
 have z0:=hB.cell 0
 have z1:=hB.cell 1
 have z2:=hB.cell 2
 have z3:=hB.cell 3
 have z4:=hB.cell 4
 simp only [nqg,nqh,nqi] at z0 z1 z2 z3 z4
 have hs1:=h1.adv hbel
 go_wp2_with fail
 go_loop [25] (fun i=>∃ k:Nat,k≤ins.length∧i = .int .i64 k) (fun i=>ins.length - (intOf i).toNat)
 case atStart=>exact ⟨0,by omega,rfl⟩
 case round =>
  obtain ⟨k,hk,rfl⟩:=hrel
  by_cases hlt:k < ins.length
  ·
   obtain ⟨b,off,hA,hb,hc⟩:=hs1.at_ hlt
   have c0:=hc 0 _ rfl
   simp only [Nat.add_zero,Nat.mul_one] at c0
   have hki:(k:Int) < (ins.length:Int):=by omega
   clear hc
   rw [hA]
   obtain ⟨x0,x1⟩:=HINS.out _ (List.getElem_mem hlt)
   go_wp2_with fail
   refine (amtP32 _ _ x0 x1).mono ?_
   rintro e w' ⟨rfl,rfl⟩
   go_wp2
   go_round
   case rel =>
    have hfin:∃ k':Nat,k'≤ins.length∧Value.int .i64 ((k:Int)+1) = .int .i64 k':=⟨k+1,by omega,by go_num⟩
    first | exact hfin | (refine ⟨trivial,?_⟩; (repeat apply Exists.intro); exact ⟨hfin,rfl⟩) | ((repeat apply Exists.intro); exact ⟨hfin,rfl⟩)
   case measure=>simp [intOf]; omega
  ·
   have w0' : -(periods * 1000000000)≤withheld:=by omega
   go_wp2_with fail
   refine (HR.out _ hbel).mono ?_
   rintro e w1 ⟨rfl,hb1⟩
   have hbel1:=bel_adv hbel hb1
   go_wp2
   go_ret
   exact ⟨rfl,hbel1⟩
set_option maxRecDepth 100000 in
set_option maxHeartbeats 1000000 in
theorem keptP32 (K:Option Addr) (kc:Nat) (kept:List Elem) (w:World) (hk:SliceOf encE 2 w w.heap.size K kept) (hK:KeptOk kept) : Calls Tryz.prog 101 #[.slice K kept.length kc] w fun e w'=>e = .returned (.bool true)∧Below w.heap.size w w':=by
 obtain ⟨hkr,hkl,hkh⟩:=hK
 obtain ⟨_,hkz⟩:=rec_size hkr
 have HK:Hid (Calls Tryz.prog 69 #[.slice K kept.length kc] w fun e w'=>e = .returned (.bool true)∧Below w.heap.size w w'):=by
  have:=rec_any K kc kept w hk hkz (by omega)
  rwa [hkr] at this
 have HKH:=Lib.hid hkh
 clear hkr hkz hkh
 go_enter Tryz.func101,Tryz.ntmps101
 go_wp2_with fail
 refine HK.out.mono ?_
 rintro e w1 ⟨rfl,hb1⟩
 have hk1:=hk.adv hb1
 clear hk
 go_wp2_with fail
 go_loopw [15] (fun i wr=>∃ k:Nat,k≤kept.length∧i = .int .i64 k∧Below w1.heap.size w1 wr) (fun i _=>kept.length - (intOf i).toNat)
 case atStart=>exact ⟨0,by omega,rfl,Below.refl _ _⟩
 case round =>
  rename World=>wr
  obtain ⟨k,hkk,rfl,hbr⟩:=hrel
  have hbs:=hbr.size
  by_cases hlt:k < kept.length
  ·
   obtain ⟨b,off,hA,hb,hc⟩:=(hk1.adv hbr).at_ hlt
   have c0:=hc 0 _ rfl
   have c1:=hc 1 _ rfl
   simp only [Nat.add_zero] at c0
   have hki:(k:Int) < (kept.length:Int):=by omega
   clear hc
   rw [hA]
   have hhi:=HKH.out _ (List.getElem_mem hlt)
   have hba:=hbr.alloc hbs (.cells #[.string kept[k].code,.int .i64 kept[k].amount] 69)
   go_wp2
   go_roundw
   case rel =>
    have hfin:∃ k':Nat,k'≤kept.length∧Value.int .i64 ((k:Int)+1) = .int .i64 k'∧Below w1.heap.size w1 _:=⟨k+1,by omega,by go_num,hba⟩
    first | exact hfin | ((repeat apply Exists.intro); exact ⟨hfin,rfl⟩)
   case measure=>simp [intOf]; omega
  ·
   have hfin:=bel_adv hb1 hbr
   go_wp2
   go_ret
   exact ⟨rfl,hfin⟩
end Go.Proofs.YtlhkojcmcmkmaaaGreat
namespace Go.Proofs.YtlhkojcmcmkmaaaGreat
open Go.RowKit
set_option maxRecDepth 100000 in
set_option maxHeartbeats 4000000 in
theorem argP32 (r:RulesM) (p:PersonM) (y:YearM) (K:Option Addr) (kc:Nat) (kept:List Elem) (w:World) (hr:r.In w) (hp:p.In w) (hy:y.In w) (hk:SliceOf encE 2 w w.heap.size K kept)
  (hR:RulesOk r.t) (hP:PersonOk p.t) (hY:YearOk y.t) (hK:KeptOk kept) (hS:∀ e ∈ p.es,(e.l.length:Int) = y.periods) :
  Calls Tryz.prog 51 #[r.val,p.val,y.val,.slice K kept.length kc] w fun e w'=>e = .returned (.int .i64 (chkE y.periods r.count))∧Below w.heap.size w w':=by
 have HV:Hid (∀ W,Below w.heap.size w W→Calls Tryz.prog 99 #[.agg #[.slice r.Aw r.ws.length r.cw,.slice r.As r.ss.length r.cs,.int .i64 r.tm.t.method,.slice r.tm.Ab r.tm.t.brs.length r.tm.cb,.int .i64 r.tm.t.allowance,.int .i64 r.tm.t.credit,.int .i64 r.tm.t.unit,.int .i64 r.tm.t.mode,.slice r.tm.Ar r.tm.t.rows.length r.tm.cr,.int .i64 r.count,.int .i64 r.sh.fixed,.int .i64 r.sh.dependent,.int .i64 r.sh.lower,.int .i64 r.sh.share,.int .i64 r.sh.top,.int .i64 r.recover]] W fun e w'=>e = .returned (.bool true)∧Below W.heap.size W w'):=fun W hb=>validP32 r W (hr.adv hb) hR
 have HP:Hid (∀ W,Below w.heap.size w W→Calls Tryz.prog 100 #[.agg #[.int .i64 p.deps,.slice p.Ad p.ds.length p.cd,.slice p.Ao p.os.length p.co,.slice p.Ae p.es.length p.ce]] W fun e w'=>e = .returned (.bool true)∧Below W.heap.size W w'):=fun W hb=>personP32 p W (hp.adv hb) hP
 have HY:Hid (∀ W,Below w.heap.size w W→Calls Tryz.prog 29 #[.agg #[.int .i64 y.periods,.int .i64 y.income,.int .i64 y.withheld,.slice y.Ai y.ins.length y.ci,.slice y.At y.taken.length y.ct]] W fun e w'=>e = .returned (.bool true)∧Below W.heap.size W w'):=fun W hb=>yearP32 y W (hy.adv hb) hY
 have HK:Hid (∀ W,Below w.heap.size w W→Calls Tryz.prog 101 #[.slice K kept.length kc] W fun e w'=>e = .returned (.bool true)∧Below W.heap.size W w'):=fun W hb=>keptP32 K kc kept W (hk.adv hb) hK
 have HS:=Lib.hid hS
 have hel:p.es.length≤7:=by have:=hP.nothers; simpa [PersonM.t] using this
 have y0:0≤y.periods:=hY.p0
 have y1:y.periods≤53:=hY.p1
 have r0:1≤r.count:=hR.c0
 have r1:r.count≤53:=hR.c1
 clear hR hP hY hK hS hr hy hk
 unfold RulesM.val PersonM.val YearM.val
 go_enter Tryz.func51,Tryz.ntmps51
 have hBr:=((Blk.new w 45 #[.slice r.Aw r.ws.length r.cw,.slice r.As r.ss.length r.cs,.int .i64 r.tm.t.method,.slice r.tm.Ab r.tm.t.brs.length r.tm.cb,.int .i64 r.tm.t.allowance,.int .i64 r.tm.t.credit,.int .i64 r.tm.t.unit,.int .i64 r.tm.t.mode,.slice r.tm.Ar r.tm.t.rows.length r.tm.cr,.int .i64 r.count,.int .i64 r.sh.fixed,.int .i64 r.sh.dependent,.int .i64 r.sh.lower,.int .i64 r.sh.share,.int .i64 r.sh.top,.int .i64 r.recover]).alloc (.cells #[.int .i64 p.deps,.slice p.Ad p.ds.length p.cd,.slice p.Ao p.os.length p.co,.slice p.Ae p.es.length p.ce] 50)).alloc (.cells #[.int .i64 y.periods,.int .i64 y.income,.int .i64 y.withheld,.slice y.Ai y.ins.length y.ci,.slice y.At y.taken.length y.ct] 53)
 have hBp:=(Blk.new (w.alloc (.cells #[.slice r.Aw r.ws.length r.cw,.slice r.As r.ss.length r.cs,.int .i64 r.tm.t.method,.slice r.tm.Ab r.tm.t.brs.length r.tm.cb,.int .i64 r.tm.t.allowance,.int .i64 r.tm.t.credit,.int .i64 r.tm.t.unit,.int .i64 r.tm.t.mode,.slice r.tm.Ar r.tm.t.rows.length r.tm.cr,.int .i64 r.count,.int .i64 r.sh.fixed,.int .i64 r.sh.dependent,.int .i64 r.sh.lower,.int .i64 r.sh.share,.int .i64 r.sh.top,.int .i64 r.recover] 45)) 50 #[.int .i64 p.deps,.slice p.Ad p.ds.length p.cd,.slice p.Ao p.os.length p.co,.slice p.Ae p.es.length p.ce]).alloc (.cells #[.int .i64 y.periods,.int .i64 y.income,.int .i64 y.withheld,.slice y.Ai y.ins.length y.ci,.slice y.At y.taken.length y.ct] 53)
 have hBy:=Blk.new ((w.alloc (.cells #[.slice r.Aw r.ws.length r.cw,.slice r.As r.ss.length r.cs,.int .i64 r.tm.t.method,.slice r.tm.Ab r.tm.t.brs.length r.tm.cb,.int .i64 r.tm.t.allowance,.int .i64 r.tm.t.credit,.int .i64 r.tm.t.unit,.int .i64 r.tm.t.mode,.slice r.tm.Ar r.tm.t.rows.length r.tm.cr,.int .i64 r.count,.int .i64 r.sh.fixed,.int .i64 r.sh.dependent,.int .i64 r.sh.lower,.int .i64 r.sh.share,.int .i64 r.sh.top,.int .i64 r.recover] 45)).alloc (.cells #[.int .i64 p.deps,.slice p.Ad p.ds.length p.cd,.slice p.Ao p.os.length p.co,.slice p.Ae p.es.length p.ce] 50)) 53 #[.int .i64 y.periods,.int .i64 y.income,.int .i64 y.withheld,.slice y.Ai y.ins.length y.ci,.slice y.At y.taken.length y.ct]
 have hbel:=bel_alloc (bel_alloc (below_new w (.cells #[.slice r.Aw r.ws.length r.cw,.slice r.As r.ss.length r.cs,.int .i64 r.tm.t.method,.slice r.tm.Ab r.tm.t.brs.length r.tm.cb,.int .i64 r.tm.t.allowance,.int .i64 r.tm.t.credit,.int .i64 r.tm.t.unit,.int .i64 r.tm.t.mode,.slice r.tm.Ar r.tm.t.rows.length r.tm.cr,.int .i64 r.count,.int .i64 r.sh.fixed,.int .i64 r.sh.dependent,.int .i64 r.sh.lower,.int .i64 r.sh.share,.int .i64 r.sh.top,.int .i64 r.recover] 45)) (.cells #[.int .i64 p.deps,.slice p.Ad p.ds.length p.cd,.slice p.Ao p.os.length p.co,.slice p.Ae p.es.length p.ce] 50)) (.cells #[.int .i64 y.periods,.int .i64 y.income,.int .i64 y.withheld,.slice y.Ai y.ins.length y.ci,.slice y.At y.taken.length y.ct] 53)
 simp only [World.size_alloc] at hBp hBy
 go_upto_region 1 with fail
 generalize World.alloc _ (Obj.cells #[.int .i64 y.periods,.int .i64 y.income,.int .i64 y.withheld,.slice y.Ai y.ins.length y.ci,.slice y.At y.taken.length y.ct] 53) = W at hBr hBp hBy hbel ⊢
 have z0:=hBr.cell 0
 have z1:=hBr.cell 1
 have z2:=hBr.cell 2
 have z3:=hBr.cell 3
 have z4:=hBr.cell 4
 have z5:=hBr.cell 5
 have z6:=hBr.cell 6
 have z7:=hBr.cell 7
 have z8:=hBr.cell 8
 have z9:=hBr.cell 9
 have z10:=hBr.cell 10
 have z11:=hBr.cell 11
 have z12:=hBr.cell 12
 have z13:=hBr.cell 13
 have z14:=hBr.cell 14
 have z15:=hBr.cell 15
 simp only [nqg,nqh,nqi] at z0 z1 z2 z3 z4 z5 z6 z7 z8 z9 z10 z11 z12 z13 z14 z15
 go_wp2_with fail
 refine (HV.out _ hbel).mono ?_
 rintro e w1 ⟨rfl,hb1⟩
 have hBr1:=hBr.adv hb1
 have hBp1:=hBp.adv hb1
 have hBy1:=hBy.adv hb1
 have hbel1:=bel_adv hbel hb1
 clear hBr hBp hBy hbel hb1 z0 z1 z2 z3 z4 z5 z6 z7 z8 z9 z10 z11 z12 z13 z14 z15
 have z0:=hBp1.cell 0
 have z1:=hBp1.cell 1
 have z2:=hBp1.cell 2
 have z3:=hBp1.cell 3
 simp only [nqg,nqh,nqi] at z0 z1 z2 z3
 go_wp2_with fail
 refine (HP.out _ hbel1).mono ?_
 rintro e w2 ⟨rfl,hb2⟩
 have hBr2:=hBr1.adv hb2
 have hBp2:=hBp1.adv hb2
 have hBy2:=hBy1.adv hb2
 have hbel2:=bel_adv hbel1 hb2
 clear hBr1 hBp1 hBy1 hbel1 hb2 z0 z1 z2 z3
 have z0:=hBy2.cell 0
 have z1:=hBy2.cell 1
 have z2:=hBy2.cell 2
 have z3:=hBy2.cell 3
 have z4:=hBy2.cell 4
 simp only [nqg,nqh,nqi] at z0 z1 z2 z3 z4
 go_wp2_with fail
 refine (HY.out _ hbel2).mono ?_
 rintro e w3 ⟨rfl,hb3⟩
 have hBr3:=hBr2.adv hb3
 have hBp3:=hBp2.adv hb3
 have hBy3:=hBy2.adv hb3
 have hbel3:=bel_adv hbel2 hb3
 clear hBr2 hBp2 hBy2 hbel2 hb3 z0 z1 z2 z3 z4
 go_wp2_with fail
 refine (HK.out _ hbel3).mono ?_
 rintro e w4 ⟨rfl,hb4⟩
 have hBr4:=hBr3.adv hb4
 have hBp4:=hBp3.adv hb4
 have hBy4:=hBy3.adv hb4
 have hbel4:=bel_adv hbel3 hb4
 clear hBr3 hBp3 hBy3 hbel3 hb4
 have z9:=hBr4.cell 9
 have z3:=hBp4.cell 3
 have y0':=hBy4.cell 0
 simp only [nqg,nqh,nqi] at z9 z3 y0'
 have hes:=hp.es.adv hbel4
 clear HV HP HY HK hp
 by_cases hge:r.count≤y.periods
 ·
  have HE:Hid (chkE y.periods r.count = 3):=by rw [Hid,chkE,if_pos hge]
  go_wp2
  go_ret
  exact ⟨by rw [HE.out]; rfl,hbel4⟩
 ·
  have HE:Hid (chkE y.periods r.count = 0):=by rw [Hid,chkE,if_neg hge]
  go_wp2_with fail
  go_loopw [37] (fun i wr=>∃ k:Nat,k≤p.es.length∧i = .int .i64 k∧Below w4.heap.size w4 wr) (fun i _=>p.es.length - (intOf i).toNat)
  case atStart=>exact ⟨0,by omega,rfl,Below.refl _ _⟩
  case round =>
   rename World=>wr
   clear z9 z3 y0'
   obtain ⟨k,hkk,rfl,hbr⟩:=hrel
   have hbs:=hbr.size
   by_cases hlt:k < p.es.length
   ·
    obtain ⟨b,off,hA,hb,hc⟩:=(hes.adv hbr).at_ hlt
    have c0:=hc 0 _ rfl
    have c1:=hc 1 _ rfl
    simp only [Nat.add_zero] at c0
    have hki:(k:Int) < (p.es.length:Int):=by omega
    clear hc
    rw [hA]
    have hne:((p.es[k].l.length:Int) != y.periods) = false:=by rw [HS.out _ (List.getElem_mem hlt)]; simp
    have hBo:=Blk.new wr 137 #[.slice p.es[k].A p.es[k].l.length p.es[k].cap,.int .i64 p.es[k].base]
    have hbn:=below_new wr (.cells #[.slice p.es[k].A p.es[k].l.length p.es[k].cap,.int .i64 p.es[k].base] 137)
    have hB9:=(hBy4.adv hbr).adv hbn
    go_upto_region 8 with fail
    generalize wr.alloc (Obj.cells _ _) = W1 at hBo hbn hB9 ⊢
    have hb1:=bel_adv hbr hbn
    have e0:=hBo.cell 0
    have e9:=hB9.cell 0
    simp only [nqg,nqh] at e0 e9
    clear c0 c1 hbn hbr hbs hBo hB9
    go_wp2
    go_roundw
    case rel =>
     have hfin:∃ k':Nat,k'≤p.es.length∧Value.int .i64 ((k:Int)+1) = .int .i64 k'∧Below w4.heap.size w4 W1:=⟨k+1,by omega,by go_num,hb1⟩
     first | exact hfin | ((repeat apply Exists.intro); exact ⟨hfin,rfl⟩)
    case measure=>simp [intOf]; omega
   ·
    have hfin:=bel_adv hbel4 hbr
    go_wp2
    go_ret
    exact ⟨by rw [HE.out]; rfl,hfin⟩
end Go.Proofs.YtlhkojcmcmkmaaaGreat
