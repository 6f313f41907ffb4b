/- Joined texts: R32b Cmp0. Conditions: as stated. -/
import Derived.StillTailTactics
import Derived.Deep.CutRange
import Derived.Test.YtjncpgbhokjbfaaGreatJ12
import Derived.Test.YtjncpgbhokjbfaaGreatJ13
import Derived.Test.YtjncpgbhokjbfaaGreatJ25
namespace Go.Proofs.YtjncpgbhokjbfaaGreat
open Go.RowKit
theorem ded_size {l:List DedT} (h:validD l = true) : l.length≤16∧∀ x ∈ l,x.code.size≤maxLen:=⟨(validD_iff.1 h).1,fun x hx=>name_max ((validD_iff.1 h).2.1 x hx).name⟩
theorem rec_size {l:List Elem} (h:recB l = true) : l.length≤128∧∀ x ∈ l,x.code.size≤maxLen:=by
 obtain ⟨h1,h2,_⟩:=recB_iff.1 h
 exact ⟨h1,fun x hx=>name_max (h2 x hx).1⟩
set_option maxRecDepth 100000 in
set_option maxHeartbeats 4000000 in
theorem person32_yes (m:PersonM) (w:World) (h:m.In w) (hP:PersonOk m.t) : Calls Tryz.prog 87 #[m.val] w fun e w'=>e = .returned (.bool true)∧Below w.heap.size w w':=by
 have d0:0≤m.deps:=hP.d0
 have d1:m.deps≤20:=hP.d1
 have hel:m.es.length≤7:=by have:=hP.nothers; simpa [PersonM.t] using this
 have hmem:∀ e ∈ m.es,e.v ∈ m.t.others:=fun e he=>List.mem_map.2 ⟨e,he,rfl⟩
 have HE:Hid (∀ e ∈ m.es,(0≤e.base∧e.base≤1000000000)∧e.l.length≤53∧∀ x ∈ e.l,0≤x∧x≤1000000000):=fun e he=>⟨hP.base _ (hmem e he),hP.lens _ (hmem e he),hP.earlier _ (hmem e he)⟩
 have hd:validD m.ds = true:=hP.deds
 obtain ⟨hdl,hdz⟩:=ded_size hd
 have HD:Hid (∀ W,Below w.heap.size w W→Calls Tryz.prog 92 #[.slice m.Ad m.ds.length m.cd] W fun e w'=>e = .returned (.bool true)∧Below W.heap.size W w'):=fun W hb=>by
  have:=valid27_any m.Ad m.cd m.ds W (h.ds.adv hb) hdz (by omega)
  rwa [hd] at this
 have HO:Hid (∀ W,Below w.heap.size w W→Calls Tryz.prog 108 #[.slice m.Ao m.os.length m.co] W fun e w'=>e = .returned (.bool true)∧Below W.heap.size W w'):=fun W hb=>orders31_yes m.Ao m.co m.os W (h.os.adv hb) hP.orders
 clear hP hd hdz hmem
 unfold PersonM.val
 go_enter Tryz.func87,Tryz.ntmps87
 have hB:=Blk.new w 78 #[.int .i64 m.deps,.slice m.Ad m.ds.length m.cd,.slice m.Ao m.os.length m.co,.slice m.Ae m.es.length m.ce]
 have hbel:=below_new w (.cells #[.int .i64 m.deps,.slice m.Ad m.ds.length m.cd,.slice m.Ao m.os.length m.co,.slice m.Ae m.es.length m.ce] 78)
 go_upto_region 1 with fail
 generalize w.alloc (Obj.cells _ _) = W at hB hbel ⊢
 have z0:=hB.cell 0
 have z1:=hB.cell 1
 have z2:=hB.cell 2
 have z3:=hB.cell 3
 simp only [nqg,nqh,nqi] at z0 z1 z2 z3
 go_wp2_with fail
 refine (in32_yes d0 d1 _).mono ?_
 rintro e w' ⟨rfl,rfl⟩
 go_wp2_with fail
 refine (HD.out _ hbel).mono ?_
 rintro e w1 ⟨rfl,hb1⟩
 have hB1:=hB.adv hb1
 have hbel1:=bel_adv hbel hb1
 clear hB hbel hb1 z0 z1 z2 z3
 have z0:=hB1.cell 0
 have z1:=hB1.cell 1
 have z2:=hB1.cell 2
 have z3:=hB1.cell 3
 simp only [nqg,nqh,nqi] at z0 z1 z2 z3
 go_wp2_with fail
 refine (HO.out _ hbel1).mono ?_
 rintro e w2 ⟨rfl,hb2⟩
 have hB2:=hB1.adv hb2
 have hbel2:=bel_adv hbel1 hb2
 clear hB1 hbel1 hb2 z0 z1 z2 z3
 have z3:=hB2.cell 3
 simp only [nqg,nqh,nqi] at z3
 have hes:=h.es.adv hbel2
 have HIN:Hid (∀ e ∈ m.es,SliceOf encI 1 w2 w2.heap.size e.A e.l):=fun e he=>(h.ins e he).adv hbel2
 have hlB:=hB2.lt
 clear h HD HO hB2
 go_wp2_with fail
 go_loop [3] (fun i=>∃ k:Nat,k≤m.es.length∧i = .int .i64 k) (fun i=>m.es.length - (intOf i).toNat)
 case atStart=>exact ⟨0,by omega,rfl⟩
 case round =>
  obtain ⟨k,hk,rfl⟩:=hrel
  by_cases hlt:k < m.es.length
  ·
   obtain ⟨b,off,hA,hb,hc⟩:=hes.at_ hlt
   have c0:=hc 0 _ rfl
   have c1:=hc 1 _ rfl
   simp only [Nat.add_zero] at c0
   have hki:(k:Int) < (m.es.length:Int):=by omega
   clear hc
   rw [hA] at z3
   clear hA
   obtain ⟨⟨b0,b1⟩,hll,hlx⟩:=HE.out _ (List.getElem_mem hlt)
   have HLX:=Lib.hid hlx
   have hin:=HIN.out _ (List.getElem_mem hlt)
   clear hlx
   go_wp2_with fail
   refine (in32_yes b0 b1 _).mono ?_
   rintro e w' ⟨rfl,rfl⟩
   go_wp2_with fail
   go_loop [4] (fun i=>∃ j:Nat,j≤m.es[k].l.length∧i = .int .i64 j) (fun i=>m.es[k].l.length - (intOf i).toNat)
   case atStart=>exact ⟨0,by omega,rfl⟩
   case round =>
    obtain ⟨j,hj,rfl⟩:=hrel
    by_cases hjl:j < m.es[k].l.length
    ·
     obtain ⟨b2,off2,hA2,hb2,hc2⟩:=hin.at_ hjl
     have d0':=hc2 0 _ rfl
     simp only [Nat.add_zero,Nat.mul_one] at d0'
     have hji:(j:Int) < (m.es[k].l.length:Int):=by omega
     clear hc2
     rw [hA2] at c0
     clear hA2
     obtain ⟨x0,x1⟩:=HLX.out _ (List.getElem_mem hjl)
     go_wp2_with fail
     refine (in32_yes x0 x1 _).mono ?_
     rintro e w' ⟨rfl,rfl⟩
     go_wp2
     go_round
     case rel =>
      have hfin:∃ j':Nat,j'≤m.es[k].l.length∧Value.int .i64 ((j:Int)+1) = .int .i64 j':=⟨j+1,by omega,by go_num⟩
      first | exact hfin | (refine ⟨trivial,?_⟩; (repeat apply Exists.intro); exact ⟨hfin,rfl⟩) | ((repeat apply Exists.intro); exact ⟨hfin,rfl⟩)
     case measure=>simp [intOf]; omega
    ·
     go_wp2
     go_round
     case rel =>
      have hfin:∃ j':Nat,j'≤m.es.length∧Value.int .i64 ((k:Int)+1) = .int .i64 j':=⟨k+1,by omega,by go_num⟩
      first | exact hfin | exact ⟨k+1,by omega,by omega⟩ | ((repeat apply Exists.intro); exact ⟨hfin,rfl⟩)
     case measure=>simp [intOf]; omega
  ·
   go_wp2
   go_ret
   exact ⟨rfl,hbel2⟩
set_option maxRecDepth 100000 in
set_option maxHeartbeats 4000000 in
theorem year32_yes (m:YearM) (w:World) (h:m.In w) (hY:YearOk m.t) : Calls Tryz.prog 88 #[m.val] w fun e w'=>e = .returned (.bool true)∧Below w.heap.size w w':=by
 obtain ⟨periods,income,withheld,Ai,ci,ins,At,ct,taken⟩:=m
 obtain ⟨p0,p1,hlen,hins,i0,i1,w0,w1',ht⟩:=hY
 simp only [YearM.t] at p0 p1 hlen hins i0 i1 w0 w1' ht
 obtain ⟨h1,h2⟩:=h
 simp only at h1 h2
 have HINS:=Lib.hid hins
 obtain ⟨htl,htz⟩:=rec_size ht
 have HR:Hid (∀ W,Below w.heap.size w W→Calls Tryz.prog 89 #[.slice At taken.length ct] W fun e w'=>e = .returned (.bool true)∧Below W.heap.size W w'):=fun W hb=>by
  have:=rec27_any At ct taken W (h2.adv hb) htz (by omega)
  rwa [ht] at this
 have hl53:ins.length≤53:=by omega
 have hne:((ins.length:Int) != periods) = false:=by simp [hlen]
 have hlen':=Lib.hid hlen
 clear hins ht htz hlen h2
 unfold YearM.val
 simp only
 go_enter Tryz.func88,Tryz.ntmps88
 have hB:=Blk.new w 81 #[.int .i64 periods,.int .i64 income,.int .i64 withheld,.slice Ai ins.length ci,.slice At taken.length ct]
 have hbel:=below_new w (.cells #[.int .i64 periods,.int .i64 income,.int .i64 withheld,.slice Ai ins.length ci,.slice At taken.length ct] 81)
 go_upto_region 1 with fail
 generalize w.alloc (Obj.cells _ _) = W at hB hbel ⊢
 have z0:=hB.cell 0
 have z1:=hB.cell 1
 have z2:=hB.cell 2
 have z3:=hB.cell 3
 have z4:=hB.cell 4
 simp only [nqg,nqh,nqi] at z0 z1 z2 z3 z4
 go_wp2_with fail
 refine (in32_yes p0 p1 _).mono ?_
 rintro e w' ⟨rfl,rfl⟩
 go_wp2_with fail
 refine (in32_yes i0 i1 _).mono ?_
 rintro e w' ⟨rfl,rfl⟩
 have w0' : -periods * 1000000000≤withheld:=by omega
 go_wp2_with fail
 refine (HR.out _ hbel).mono ?_
 rintro e w1 ⟨rfl,hb1⟩
 have hB1:=hB.adv hb1
 have hbel1:=bel_adv hbel hb1
 clear hB hbel hb1 z0 z1 z2 z3 z4
 have z3:=hB1.cell 3
 simp only [nqg,nqh,nqi] at z3
 have hs1:=h1.adv hbel1
 have hlB:=hB1.lt
 clear hB1 h1 HR
 go_wp2_with fail
 go_loop [3] (fun i=>∃ k:Nat,k≤ins.length∧i = .int .i64 k) (fun i=>ins.length - (intOf i).toNat)
 case atStart=>exact ⟨0,by omega,rfl⟩
 case round =>
  obtain ⟨k,hk,rfl⟩:=hrel
  by_cases hlt:k < ins.length
  ·
   obtain ⟨b,off,rfl,hb,hc⟩:=hs1.at_ hlt
   have c0:=hc 0 _ rfl
   simp only [Nat.add_zero,Nat.mul_one] at c0
   have hki:(k:Int) < (ins.length:Int):=by omega
   clear hc
   obtain ⟨x0,x1⟩:=HINS.out _ (List.getElem_mem hlt)
   go_wp2_with fail
   refine (in32_yes x0 x1 _).mono ?_
   rintro e w' ⟨rfl,rfl⟩
   go_wp2
   go_round
   case rel=>exact ⟨k+1,by omega,by go_num⟩
   case measure=>simp [intOf]; omega
  ·
   go_wp2
   go_ret
   exact ⟨rfl,hbel1⟩
def chkE (periods count : Int) : Int:=if count≤periods then 3 else 0
set_option maxRecDepth 100000 in
set_option maxHeartbeats 4000000 in
theorem check32_ok (r:RulesM) (p:PersonM) (y:YearM) (K:Option Addr) (kc:Nat) (kept:List Elem) (w:World) (hr:r.In w) (hp:p.In w) (hy:y.In w) (hk:SliceOf encE 2 w w.heap.size K kept)
  (hR:RulesOk r.t) (hP:PersonOk p.t) (hY:YearOk y.t) (hK:KeptOk kept) (hS:∀ e ∈ p.es,(e.l.length:Int) = y.periods) :
  Calls Tryz.prog 50 #[r.val,p.val,y.val,.slice K kept.length kc] w fun e w'=>e = .returned (.int .i64 (chkE y.periods r.count))∧Below w.heap.size w w':=by
 have HV:Hid (∀ W,Below w.heap.size w W→Calls Tryz.prog 86 #[.agg #[.slice r.Aw r.ws.length r.cw,.slice r.As r.ss.length r.cs,.int .i64 r.tm.t.method,.slice r.tm.Ab r.tm.t.brs.length r.tm.cb,.int .i64 r.tm.t.allowance,.int .i64 r.tm.t.credit,.int .i64 r.tm.t.unit,.int .i64 r.tm.t.mode,.slice r.tm.Ar r.tm.t.rows.length r.tm.cr,.int .i64 r.count,.int .i64 r.sh.fixed,.int .i64 r.sh.dependent,.int .i64 r.sh.lower,.int .i64 r.sh.share,.int .i64 r.sh.top,.int .i64 r.recover]] W fun e w'=>e = .returned (.bool true)∧Below W.heap.size W w'):=fun W hb=>valid32_yes r W (hr.adv hb) hR
 have HP:Hid (∀ W,Below w.heap.size w W→Calls Tryz.prog 87 #[.agg #[.int .i64 p.deps,.slice p.Ad p.ds.length p.cd,.slice p.Ao p.os.length p.co,.slice p.Ae p.es.length p.ce]] W fun e w'=>e = .returned (.bool true)∧Below W.heap.size W w'):=fun W hb=>person32_yes p W (hp.adv hb) hP
 have HY:Hid (∀ W,Below w.heap.size w W→Calls Tryz.prog 88 #[.agg #[.int .i64 y.periods,.int .i64 y.income,.int .i64 y.withheld,.slice y.Ai y.ins.length y.ci,.slice y.At y.taken.length y.ct]] W fun e w'=>e = .returned (.bool true)∧Below W.heap.size W w'):=fun W hb=>year32_yes y W (hy.adv hb) hY
 obtain ⟨hkr,hkl,hkh⟩:=hK
 obtain ⟨_,hkz⟩:=rec_size hkr
 have HK:Hid (∀ W,Below w.heap.size w W→Calls Tryz.prog 89 #[.slice K kept.length kc] W fun e w'=>e = .returned (.bool true)∧Below W.heap.size W w'):=fun W hb=>by
  have:=rec27_any K kc kept W (hk.adv hb) hkz (by omega)
  rwa [hkr] at this
 have HKH:=Lib.hid hkh
 have HS:=Lib.hid hS
 have hel:p.es.length≤7:=by have:=hP.nothers; simpa [PersonM.t] using this
 have y0:0≤y.periods:=hY.p0
 have y1:y.periods≤53:=hY.p1
 have r0:1≤r.count:=hR.c0
 have r1:r.count≤53:=hR.c1
 clear hR hP hY hkr hkz hkh hS hr hy
 unfold RulesM.val PersonM.val YearM.val
 go_enter Tryz.func50,Tryz.ntmps50
 have hBr:=((Blk.new w 73 #[.slice r.Aw r.ws.length r.cw,.slice r.As r.ss.length r.cs,.int .i64 r.tm.t.method,.slice r.tm.Ab r.tm.t.brs.length r.tm.cb,.int .i64 r.tm.t.allowance,.int .i64 r.tm.t.credit,.int .i64 r.tm.t.unit,.int .i64 r.tm.t.mode,.slice r.tm.Ar r.tm.t.rows.length r.tm.cr,.int .i64 r.count,.int .i64 r.sh.fixed,.int .i64 r.sh.dependent,.int .i64 r.sh.lower,.int .i64 r.sh.share,.int .i64 r.sh.top,.int .i64 r.recover]).alloc (.cells #[.int .i64 p.deps,.slice p.Ad p.ds.length p.cd,.slice p.Ao p.os.length p.co,.slice p.Ae p.es.length p.ce] 78)).alloc (.cells #[.int .i64 y.periods,.int .i64 y.income,.int .i64 y.withheld,.slice y.Ai y.ins.length y.ci,.slice y.At y.taken.length y.ct] 81)
 have hBp:=(Blk.new (w.alloc (.cells #[.slice r.Aw r.ws.length r.cw,.slice r.As r.ss.length r.cs,.int .i64 r.tm.t.method,.slice r.tm.Ab r.tm.t.brs.length r.tm.cb,.int .i64 r.tm.t.allowance,.int .i64 r.tm.t.credit,.int .i64 r.tm.t.unit,.int .i64 r.tm.t.mode,.slice r.tm.Ar r.tm.t.rows.length r.tm.cr,.int .i64 r.count,.int .i64 r.sh.fixed,.int .i64 r.sh.dependent,.int .i64 r.sh.lower,.int .i64 r.sh.share,.int .i64 r.sh.top,.int .i64 r.recover] 73)) 78 #[.int .i64 p.deps,.slice p.Ad p.ds.length p.cd,.slice p.Ao p.os.length p.co,.slice p.Ae p.es.length p.ce]).alloc (.cells #[.int .i64 y.periods,.int .i64 y.income,.int .i64 y.withheld,.slice y.Ai y.ins.length y.ci,.slice y.At y.taken.length y.ct] 81)
 have hBy:=Blk.new ((w.alloc (.cells #[.slice r.Aw r.ws.length r.cw,.slice r.As r.ss.length r.cs,.int .i64 r.tm.t.method,.slice r.tm.Ab r.tm.t.brs.length r.tm.cb,.int .i64 r.tm.t.allowance,.int .i64 r.tm.t.credit,.int .i64 r.tm.t.unit,.int .i64 r.tm.t.mode,.slice r.tm.Ar r.tm.t.rows.length r.tm.cr,.int .i64 r.count,.int .i64 r.sh.fixed,.int .i64 r.sh.dependent,.int .i64 r.sh.lower,.int .i64 r.sh.share,.int .i64 r.sh.top,.int .i64 r.recover] 73)).alloc (.cells #[.int .i64 p.deps,.slice p.Ad p.ds.length p.cd,.slice p.Ao p.os.length p.co,.slice p.Ae p.es.length p.ce] 78)) 81 #[.int .i64 y.periods,.int .i64 y.income,.int .i64 y.withheld,.slice y.Ai y.ins.length y.ci,.slice y.At y.taken.length y.ct]
 have hbel:=bel_alloc (bel_alloc (below_new w (.cells #[.slice r.Aw r.ws.length r.cw,.slice r.As r.ss.length r.cs,.int .i64 r.tm.t.method,.slice r.tm.Ab r.tm.t.brs.length r.tm.cb,.int .i64 r.tm.t.allowance,.int .i64 r.tm.t.credit,.int .i64 r.tm.t.unit,.int .i64 r.tm.t.mode,.slice r.tm.Ar r.tm.t.rows.length r.tm.cr,.int .i64 r.count,.int .i64 r.sh.fixed,.int .i64 r.sh.dependent,.int .i64 r.sh.lower,.int .i64 r.sh.share,.int .i64 r.sh.top,.int .i64 r.recover] 73)) (.cells #[.int .i64 p.deps,.slice p.Ad p.ds.length p.cd,.slice p.Ao p.os.length p.co,.slice p.Ae p.es.length p.ce] 78)) (.cells #[.int .i64 y.periods,.int .i64 y.income,.int .i64 y.withheld,.slice y.Ai y.ins.length y.ci,.slice y.At y.taken.length y.ct] 81)
 simp only [World.size_alloc] at hBp hBy
 go_upto_region 1 with fail
 generalize World.alloc _ (Obj.cells #[.int .i64 y.periods,.int .i64 y.income,.int .i64 y.withheld,.slice y.Ai y.ins.length y.ci,.slice y.At y.taken.length y.ct] 81) = W at hBr hBp hBy hbel ⊢
 have z0:=hBr.cell 0
 have z1:=hBr.cell 1
 have z2:=hBr.cell 2
 have z3:=hBr.cell 3
 have z4:=hBr.cell 4
 have z5:=hBr.cell 5
 have z6:=hBr.cell 6
 have z7:=hBr.cell 7
 have z8:=hBr.cell 8
 have z9:=hBr.cell 9
 have z10:=hBr.cell 10
 have z11:=hBr.cell 11
 have z12:=hBr.cell 12
 have z13:=hBr.cell 13
 have z14:=hBr.cell 14
 have z15:=hBr.cell 15
 simp only [nqg,nqh,nqi] at z0 z1 z2 z3 z4 z5 z6 z7 z8 z9 z10 z11 z12 z13 z14 z15
 go_wp2_with fail
 refine (HV.out _ hbel).mono ?_
 rintro e w1 ⟨rfl,hb1⟩
 have hBr1:=hBr.adv hb1
 have hBp1:=hBp.adv hb1
 have hBy1:=hBy.adv hb1
 have hbel1:=bel_adv hbel hb1
 clear hBr hBp hBy hbel hb1 z0 z1 z2 z3 z4 z5 z6 z7 z8 z9 z10 z11 z12 z13 z14 z15
 have z0:=hBp1.cell 0
 have z1:=hBp1.cell 1
 have z2:=hBp1.cell 2
 have z3:=hBp1.cell 3
 simp only [nqg,nqh,nqi] at z0 z1 z2 z3
 go_wp2_with fail
 refine (HP.out _ hbel1).mono ?_
 rintro e w2 ⟨rfl,hb2⟩
 have hBr2:=hBr1.adv hb2
 have hBp2:=hBp1.adv hb2
 have hBy2:=hBy1.adv hb2
 have hbel2:=bel_adv hbel1 hb2
 clear hBr1 hBp1 hBy1 hbel1 hb2 z0 z1 z2 z3
 have z0:=hBy2.cell 0
 have z1:=hBy2.cell 1
 have z2:=hBy2.cell 2
 have z3:=hBy2.cell 3
 have z4:=hBy2.cell 4
 simp only [nqg,nqh,nqi] at z0 z1 z2 z3 z4
 go_wp2_with fail
 refine (HY.out _ hbel2).mono ?_
 rintro e w3 ⟨rfl,hb3⟩
 have hBr3:=hBr2.adv hb3
 have hBp3:=hBp2.adv hb3
 have hBy3:=hBy2.adv hb3
 have hbel3:=bel_adv hbel2 hb3
 clear hBr2 hBp2 hBy2 hbel2 hb3 z0 z1 z2 z3 z4
 go_wp2_with fail
 refine (HK.out _ hbel3).mono ?_
 rintro e w4 ⟨rfl,hb4⟩
 have hBr4:=hBr3.adv hb4
 have hBp4:=hBp3.adv hb4
 have hBy4:=hBy3.adv hb4
 have hbel4:=bel_adv hbel3 hb4
 clear hBr3 hBp3 hBy3 hbel3 hb4
 have z9:=hBr4.cell 9
 have z3:=hBp4.cell 3
 have y0':=hBy4.cell 0
 simp only [nqg,nqh,nqi] at z9 z3 y0'
 have hk4:=hk.adv hbel4
 have hes:=hp.es.adv hbel4
 have lB1:=hBr4.lt
 have lB2:=hBp4.lt
 have lB3:=hBy4.lt
 clear hBr4 hBp4 hBy4 HV HP HY HK hk hp
 go_wp2_with fail
 go_loop [9] (fun i=>∃ k:Nat,k≤kept.length∧i = .int .i64 k) (fun i=>kept.length - (intOf i).toNat)
 case atStart=>exact ⟨0,by omega,rfl⟩
 case round =>
  obtain ⟨k,hkk,rfl⟩:=hrel
  by_cases hlt:k < kept.length
  ·
   obtain ⟨b,off,rfl,hb,hc⟩:=hk4.at_ hlt
   have c0:=hc 0 _ rfl
   have c1:=hc 1 _ rfl
   simp only [Nat.add_zero] at c0
   have hki:(k:Int) < (kept.length:Int):=by omega
   clear hc
   have hhi:=HKH.out _ (List.getElem_mem hlt)
   go_wp2
   go_round
   case rel=>exact ⟨k+1,by omega,by go_num⟩
   case measure=>simp [intOf]; omega
  ·
   by_cases hge:r.count≤y.periods
   ·
    have HE:Hid (chkE y.periods r.count = 3):=by rw [Hid,chkE,if_pos hge]
    go_wp2
    go_ret
    exact ⟨by rw [HE.out]; rfl,hbel4⟩
   ·
    have HE:Hid (chkE y.periods r.count = 0):=by rw [Hid,chkE,if_neg hge]
    go_wp2_with fail
    go_loopw [10] (fun i wr=>∃ k q:Nat,k≤p.es.length∧i = .int .i64 k∧Hid (wr = w4.drewN q)) (fun i _=>p.es.length - (intOf i).toNat)
    case atStart=>exact ⟨0,0,by omega,rfl,rfl⟩
    case round =>
     obtain ⟨k,q,hkk,rfl,hw⟩:=hrel
     have z3':wr.cell? ⟨w.heap.size+1,3,none⟩ = some (.slice p.Ae p.es.length p.ce):=by rw [hw.out]; exact z3
     have y0'':wr.cell? ⟨w.heap.size+1+1,0,none⟩ = some (.int .i64 y.periods):=by rw [hw.out]; exact y0'
     have hes':SliceOf encEm 2 wr w4.heap.size p.Ae p.es:=by rw [hw.out]; exact hes
     by_cases hlt:k < p.es.length
     ·
      obtain ⟨b,off,hA,hb,hc⟩:=hes'.at_ hlt
      have c0:=hc 0 _ rfl
      have c1:=hc 1 _ rfl
      simp only [Nat.add_zero] at c0
      have hki:(k:Int) < (p.es.length:Int):=by omega
      clear hc
      rw [hA] at z3'
      clear hA
      have hne:((p.es[k].l.length:Int) != y.periods) = false:=by rw [HS.out _ (List.getElem_mem hlt)]; simp
      go_wp2
      go_quiet (fail)
      go_wp2
      go_roundw
      case rel=>exact ⟨k+1,q+nq,by omega,by go_num,by show wr.drewN nq = w4.drewN (q+nq); rw [hw.out,World.drewN_drewN]⟩
      case measure=>simp [intOf]; omega
     ·
      go_wp2
      go_ret
      exact ⟨by rw [HE.out]; rfl,by rw [hw.out]; exact below_drewN hbel4 q⟩
theorem linesK_take {kind:Int} {l:List Elem} {k:Nat} (h:k < l.length) : linesK kind (l.take (k+1)) = linesK kind (l.take k)++(if l[k].amount = 0 then [] else [⟨kind,l[k].code,l[k].amount⟩]):=by
 unfold linesK
 rw [List.take_succ_eq_append_getElem h,List.filter_append,List.map_append]
 by_cases h0:l[k].amount = 0
 ·
  have hz:nz l[k] = false:=by simp [nz,h0]
  rw [if_pos h0,List.filter_cons,hz]; simp
 ·
  have hz:nz l[k] = true:=by simp [nz,h0]
  rw [if_neg h0,List.filter_cons,hz]; simp
set_option maxRecDepth 100000 in
set_option maxHeartbeats 2000000 in
theorem lines32_any (kind:Int) (A:Option Addr) (cap:Nat) (l:List Elem) (w:World) (h:SliceOf encE 2 w w.heap.size A l) (hl:l.length≤1000000) :
  Calls Tryz.prog 61 #[.int .i64 kind,.slice A l.length cap] w fun e w'=>∃ v,e = .returned v∧Own encL 3 53 w' w.heap.size v (linesK kind l)∧Below w.heap.size w w':=by
 go_enter Tryz.func61,Tryz.ntmps61
 go_wp2
 go_loopw [5,6] (fun v i wr=>∃ k:Nat,k≤l.length∧i = .int .i64 k∧Own encL 3 53 wr w.heap.size v (linesK kind (l.take k))∧Below w.heap.size w wr) (fun _ i _=>l.length - (intOf i).toNat)
 case atStart=>exact ⟨0,by omega,rfl,Own.nil_ _ _,Below.refl _ _⟩
 case round =>
  obtain ⟨k,hk,rfl,hown,hbel⟩:=hrel
  have hbs:=hbel.size
  by_cases hlt:k < l.length
  ·
   obtain ⟨b,off,rfl,hb,hc⟩:=(h.below hbel).at_ hlt
   have hbw:b < wr.heap.size:=by omega
   have c0:=hc 0 _ rfl
   have c1:=hc 1 _ rfl
   simp only [Nat.add_zero] at c0
   have hki:(k:Int) < (l.length:Int):=by omega
   clear hc
   have HT:=linesK_take (kind:=kind) hlt
   by_cases h0:l[k].amount = 0
   ·
    have h0':(l[k].amount != 0) = false:=by simp [h0]
    rw [if_pos h0,List.append_nil] at HT
    have HT2:=Lib.hid HT
    clear HT h0
    go_wp2
    go_roundw
    case rel=>exact ⟨k+1,by omega,by go_num,by rw [HT2.out]; exact hown,hbel⟩
    case measure=>simp [intOf]; omega
   ·
    have h0':(l[k].amount != 0) = true:=by simp [h0]
    rw [if_neg h0] at HT
    have HT2:=Lib.hid HT
    have hr7:=fun q hq=>(hown.block_lt (g:=q) hq).1
    have hll:(linesK kind (l.take k)).length≤1000000:=by
     have:=linesK_len kind (l.take k)
     have h2:(l.take k).length≤l.length:=by simp; omega
     omega
    clear HT h0
    go_wp2
    refine wp_region_mixC (C:=fun w'=>Below w.heap.size wr w') (stable_below _ _ hbs) (Below.refl _ _) (aE:=?aE) 13 3 (by kernel_rfl) (by kernel_rfl) rfl (by kernel_rfl) (by rfl) ?H ?M
    case H =>
     intro F hF inst
     simp only [List.take_succ_cons,List.take_zero]
     have e0:∀ p:BwC (fun w'=>Below w.heap.size wr w') F,p.w'.cell? ⟨b,off+k * 2,none⟩ = some (.string l[k].code):=fun p=>(p.h.cell (p:=⟨b,off+k * 2,none⟩) hb).trans c0
     have e1:∀ p:BwC (fun w'=>Below w.heap.size wr w') F,p.w'.cell? ⟨b,off+k * 2+1,none⟩ = some (.int .i64 l[k].amount):=fun p=>(p.h.cell (p:=⟨b,off+k * 2+1,none⟩) hb).trans c1
     repeat (first | go_big_quiet_step (fail))
     refine wpQuiet_nil ?_
     rfl
    case M =>
     intro Q0 hQ0
     refine mix_step [13] (by kernel_rfl) (by simp) ?_
     intro w1 hC1 hb1 i hi
     simp only [nqj,nqk,or_false] at hi
     subst hi
     refine mix_val (.slice (some ⟨w1.heap.size,0,none⟩) 1 1) (w1.alloc (.cells #[.int .i64 kind,.string l[k].code,.int .i64 l[k].amount] 53)) rfl rfl (by go_simp) ⟨hC1.alloc (Nat.le_trans hbs hb1.size) _,?_⟩
     have hS1:=SliceOf.new encL_len w1 [⟨kind,l[k].code,l[k].amount⟩] _ 53 rfl
     rw [← World.size_alloc w1 (.cells #[.int .i64 kind,.string l[k].code,.int .i64 l[k].amount] 53)] at hS1
     have hown1:=(hown.adv hb1).alloc (.cells #[.int .i64 kind,.string l[k].code,.int .i64 l[k].amount] 53)
     have hbs1:w.heap.size≤(w1.alloc (.cells #[.int .i64 kind,.string l[k].code,.int .i64 l[k].amount] 53)).heap.size:=by rw [World.size_alloc]; have:=hb1.size; omega
     refine mix_step [14] (by kernel_rfl) (by simp) ?_
     intro w2 hC2 hb2 i hi
     simp only [nqj,nqk,or_false] at hi
     subst hi
     have hown2:=hown1.adv hb2
     have hS2:=hS1.adv hb2
     refine mix_append (.tmp 19) (.tmp 32) 39 1 32 _ infoL Tryz.underlying39 hown2 hS2 encL_len (by omega) rfl encL_one (by simp; omega) (by omega) (Nat.le_trans hbs1 hb2.size) rfl rfl rfl rfl rfl rfl ?_
     intro v5 w5 hown5 hg5
     have hb5:Below w.heap.size wr w5:=hC2.trans (only_below hg5 (Nat.le_trans hbs1 hb2.size) hr7)
     refine ⟨hb5,?_⟩
     refine mix_step [15] (by kernel_rfl) (by simp) ?_
     intro w6 hC6 hb6 i hi
     simp only [nqj,nqk,or_false] at hi
     subst hi
     refine mix_val v5 w6 rfl rfl rfl ⟨hC6,?_⟩
     refine mix_end (by kernel_rfl) ?_
     intro w7 hC7 hb7
     refine hQ0 _ _ ?_
     have hown7:=(hown5.adv hb6).adv hb7
     have hbel7:=hbel.trans hC7
     clear hown hown1 hown2 hown5 hS1 hS2 hg5 hb6 hb7 hb5 hC1 hC2 hC6
     go_wp2
     go_roundw
     case rel =>
      have hfin:∃ k':Nat,k'≤l.length∧Value.int .i64 ((k:Int)+1) = .int .i64 k'∧Own encL 3 53 w7 w.heap.size v5 (linesK kind (l.take k'))∧Below w.heap.size w w7:=⟨k+1,by omega,by go_num,by rw [HT2.out]; exact hown7,hbel7⟩
      first | exact hfin | ((repeat apply Exists.intro); exact ⟨hfin,rfl⟩)
     case measure=>simp [intOf]; omega
  ·
   go_wp2
   go_ret
   refine ⟨_,rfl,?_,hbel⟩
   rw [List.take_of_length_le (by omega)] at hown
   exact hown
end Go.Proofs.YtjncpgbhokjbfaaGreat
namespace Go.Proofs.YtjncpgbhokjbfaaGreat
open Go.RowKit
def dropC : Nat→Code→Code
 | 0,c=>c
 | n+1,.seq _ b=>dropC n b
 | _+1,c=>c
def headC : Code→Code
 | .seq a _=>a
 | c=>c
def bodyOf (f:Func) : Code:=f.body.getD .skip
theorem wp_stmt {P:Program} {x y : Code} {Q:Exit→Act→World→Prop} {a:Act} {w:World} (h : ∀ K : Act→World→Prop,Hid (∀ a w,y.wp P Q a w→K a w)→x.wp P (Exit.then K Q) a w) : (Code.seq x y).wp P Q a w:=wp_seq_k fun K hK=>h K hK
theorem Own.not_below {α:Type} {enc:α→List Value} {k:Nat} {e:TypeId} {w:World} {base:Nat} {v:Value} {xs:List α} (h:Own enc k e w base v xs) {g:Nat} (hg:g < base) : some g ≠ v.ownBlock:=fun he=>by
 have:=(h.block_lt he.symm).1
 omega
def AppCut (W:World) (b:BasesT) (legal:Int) (acc:List LineT) (n:Nat) (wx:World) : Prop :=
 ∃ v,Blk wx W.heap.size 41 #[.int .i64 b.g,.int .i64 b.c,.int .i64 b.t,.int .i64 b.i,.int .i64 b.a,.int .i64 legal,v]∧Own encL 3 53 wx (W.heap.size+1) v acc∧Below W.heap.size W wx∧acc.length≤n
theorem SliceOf.not_block {W:World} {B:Nat} {A:Option Addr} {l:List Elem} (h:SliceOf encE 2 W B A l) {g:Nat} {t:TypeId} {cs:Array Value} (hB:Blk W g t cs) (hcs : ∀ v ∈ cs,∀ s,v ≠ .string s) (b off : Nat) (hA:A = some ⟨b,off,none⟩) (hl:l ≠ []) : b ≠ g:=by
 intro e
 subst e
 obtain ⟨b',off',e2,_,hc⟩:=h hl
 rw [hA] at e2
 injection e2 with e2
 injection e2 with e2 e3
 subst e2 e3
 obtain ⟨x,r,rfl⟩:=List.exists_cons_of_ne_nil hl
 have h1:=hc 0 x rfl 0 (.string x.code) rfl
 simp only [Nat.zero_mul,Nat.add_zero] at h1
 rw [hB.cell] at h1
 exact hcs _ (Array.mem_of_getElem? h1) x.code rfl
theorem run_append_list2 {P:Program} {α:Type} {enc:α→List Value} {k:Nat} {e:TypeId} {W:World} {base B : Nat} {v:Value} {xs ys : List α} {A:Option Addr} {m:Nat} (t ty : TypeId) (c bytes : Nat) (z:Value)
  (hinfo:(P.info? e).map (fun i=>(i.zero,i.size,i.bytes)) = some (some z,k,bytes)) (ht:P.underlying t = some (.slice e))
  (hown:Own enc k e W base v xs) (hys:SliceOf enc k W B A ys) (hk:∀ x,(enc x).length = k) (hk0:0 < k) (hzs:z.cells.size = k) (h1:∀ y,∀ u ∈ enc y,u.oneCell' = true)
  (hlen:xs.length+ys.length≤4294967296) (hby:bytes≤1024) (hbase:base≤W.heap.size) (hm:m = ys.length) :
  ∃ v' w',(Builtin.append_ #[t,t] ty #[v,.slice A m c]).run P W = .ok v' w'∧Own enc k e w' base v' (xs++ys)∧W.grownBy w' v.ownBlock∧(v'.ownBlock = v.ownBlock ∨ v'.ownBlock = some W.heap.size):=by
 subst hm
 obtain ⟨i,hi,hz,hsz,hb⟩:=info_parts hinfo
 have hl:(ys.flatMap enc).length = ys.length * k:=by
  clear hys hlen
  induction ys with
  | nil=>simp
  | cons y ys ih=>rw [List.flatMap_cons,List.length_append,ih,hk,List.length_cons,Nat.succ_mul]; omega
 have hbb:(xs.length+ys.length) * bytes≤140737488355328:=by
  have:(xs.length+ys.length) * bytes≤4294967296 * 1024:=Nat.mul_le_mul hlen hby
  omega
 have h1':∀ u ∈ ys.flatMap enc,u.oneCell' = true:=by
  intro u hu
  obtain ⟨y,_,hy⟩:=List.mem_flatMap.1 hu
  exact h1 y u hy
 rcases A with _ | ad
 ·
  have hy0:ys = []:=by
   rcases ys with _ | ⟨y,ys⟩
   ·
    rfl
   ·
    obtain ⟨b,off,hA,_⟩:=hys (by simp)
    cases hA
  subst hy0
  exact ⟨v,W,run_append_of_nil (P:=P) W base t ty e i k ht hi v xs.length (xs.flatMap enc) hown c,by simpa using hown,only_refl _ _,.inl rfl⟩
 ·
  have hcells:∀ j u,(ys.flatMap enc)[j]? = some u→W.cell? (ad.add j) = some u:=by
   intro j u hu
   have hj:j < ys.length * k:=by rw [← hl]; exact (List.getElem?_eq_some_iff.1 hu).1
   have hne:ys ≠ []:=by intro e; subst e; simp at hj
   obtain ⟨b,off,hA',hb,hc⟩:=hys hne
   injection hA' with hA
   subst hA
   have hadd:(⟨b,off,none⟩ : Addr).add j = ⟨b,off+j,none⟩:=by unfold Addr.add; split <;> simp_all
   rw [hadd]
   have hi':j / k < ys.length:=Nat.div_lt_of_lt_mul (by rw [Nat.mul_comm]; exact hj)
   have hmod:j % k < k:=Nat.mod_lt _ hk0
   have hy:=List.getElem?_eq_getElem hi'
   have he : (enc ys[j / k])[j % k]? = some ((enc ys[j / k])[j % k]'(by rw [hk]; exact hmod)) := List.getElem?_eq_getElem _
   have h2:=flatMap_at hk ys (j / k) (j % k) _ _ hy he
   have h3:=hc _ _ hy _ _ he
   have h4:j / k * k+j % k = j:=by rw [Nat.mul_comm]; exact Nat.div_add_mod j k
   rw [h4,hu] at h2
   rw [Nat.add_assoc,h4] at h3
   rw [h3,← h2]
  obtain ⟨v',w',hr,h2,h3,_,h4⟩:=run_append_own_at (P:=P) W base t ty e i z k bytes ht hi hz hsz hb hzs hk0 v xs.length (xs.flatMap enc) hown ad ys.length c (ys.flatMap enc) hl hcells h1' (by unfold maxLen; omega) hbb hbase
  refine ⟨v',w',hr,?_,h3,h4⟩
  unfold Own
  rw [List.length_append,List.flatMap_append]
  exact h2
theorem M3.mix_append2 {P:Program} {ops:Array Oper} {C:World→Prop} {α:Type} {enc:α→List Value} {k:Nat} {e:TypeId} {W:World} {base B : Nat} {v:Value} {xs ys : List α} {A:Option Addr} {m:Nat} {o:Oper} {a:Act} {K:Act→World→Prop} {i:Nat} (s x : Operand) (t:TypeId) (c bytes : Nat) (z:Value)
  (hinfo:(P.info? e).map (fun i=>(i.zero,i.size,i.bytes)) = some (some z,k,bytes)) (ht:P.underlying t = some (.slice e))
  (hown:Own enc k e W base v xs) (hys:SliceOf enc k W B A ys) (hk:∀ x,(enc x).length = k) (hk0:0 < k) (hzs:z.cells.size = k) (h1:∀ y,∀ u ∈ enc y,u.oneCell' = true)
  (hlen:xs.length+ys.length≤4294967296) (hby:bytes≤1024) (hbase:base≤W.heap.size)
  (hoi:ops[i]? = some o) (hgd:o.guard = none) (ho:o.op = .call { callee:=.builtin .append,args:=#[s,x],argTypes:=#[t,t] })
  (hs:a.eval s = v) (hx:a.eval x = .slice A m c) (hm:m = ys.length)
  (h:∀ v' w',Own enc k e w' base v' (xs++ys)→W.grownBy w' v.ownBlock→(v'.ownBlock = v.ownBlock ∨ v'.ownBlock = some W.heap.size)→K (a.put o.dst v') w')   : M3.stepM P ops C i K a W:=by
 obtain ⟨v',w',hr,h2,h3,h4⟩:=run_append_list2 (P:=P) t o.type c bytes z hinfo ht hown hys hk hk0 hzs h1 hlen hby hbase hm
 refine M3.mix_val v' w' hoi (by simp [Region.wanted,hgd]) ?_ (h v' w' h2 h3 h4)
 unfold execOp
 simp only [ho,resolve,invoke,builtin,Sem.run_bind,Sem.run_pure,Result.andThen_ok,List.map_toArray,List.map_cons,List.map_nil,hs,hx,hr]
theorem Own.kept_ne {α:Type} {enc:α→List Value} {k:Nat} {e:TypeId} {w w' : World} {base:Nat} {v:Value} {xs:List α} {row:Option Nat} (h:Own enc k e w base v xs) (hg:w.grownBy w' row) (hr : ∀ q,v.ownBlock = some q→row ≠ some q) : Own enc k e w' base v xs:=by
 refine World.ownsRow.kept h hg ?_
 cases hv:v.ownBlock with
 | none=>exact .inl rfl
 | some g=>exact .inr (fun he=>hr g hv he.symm)
theorem blkI {w:World} {g:Nat} {n:Int} (h:Blk w g 3 #[.int .i64 n]) : SliceOf encI 1 w w.heap.size (some ⟨g,0,none⟩) [n]:=fun _=>by
 refine ⟨g,0,rfl,h.lt,fun i x hi j v hj=>?_⟩
 obtain rfl:i = 0:=by have:=(List.getElem?_eq_some_iff.1 hi).1; simp at this; exact this
 obtain rfl:j = 0:=by have:=(List.getElem?_eq_some_iff.1 hj).1; simp [encI] at this; exact this
 simp at hi
 subst hi
 simp [encI] at hj
 subst hj
 simp only [Nat.zero_mul,Nat.add_zero]
 rw [h.cell]
 rfl
theorem encI_one32 (x:Int) : ∀ u ∈ encI x,u.oneCell' = true:=by intro u hu; simp [encI] at hu; subst hu; rfl
def YCut (W:World) (b:BasesT) (legal:Int) (ls:List LineT) (p i wh : Int) (ins:List Int) (At:Option Addr) (tl ct : Nat) (ptr:Value) (wx:World) : Prop :=
 ∃ v gN Aq cq,ptr = .pointer (some ⟨gN,0,none⟩)∧Blk wx W.heap.size 41 #[.int .i64 b.g,.int .i64 b.c,.int .i64 b.t,.int .i64 b.i,.int .i64 b.a,.int .i64 legal,v]∧Own encL 3 53 wx (W.heap.size+1) v ls∧Below W.heap.size W wx ∧
  Blk wx gN 81 #[.int .i64 p,.int .i64 i,.int .i64 wh,.slice Aq ins.length cq,.slice At tl ct]∧Own encI 1 3 wx (W.heap.size+1) (.slice Aq ins.length cq) ins∧W.heap.size < gN
end Go.Proofs.YtjncpgbhokjbfaaGreat
