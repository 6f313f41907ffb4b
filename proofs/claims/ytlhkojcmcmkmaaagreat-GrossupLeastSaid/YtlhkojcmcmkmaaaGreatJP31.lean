/- Joined texts: P31. Conditions: as stated. -/
import Derived.Test.YtlhkojcmcmkmaaaGreatJRec
namespace Go.Proofs.YtlhkojcmcmkmaaaGreat
open Go.RowKit
set_option maxHeartbeats 400000 in
theorem amtP31 (n:Int) (w:World) (h0:0≤n) (h1:n≤1000000000) : Calls Tryz.prog 114 #[.int .i64 n] w fun e w'=>e = .returned (.bool true)∧w = w':=by
 go_enter Tryz.func114,Tryz.ntmps114
 go_wp2
 go_ret
 exact ⟨rfl,rfl⟩
set_option maxHeartbeats 400000 in
theorem amtP31_no (n:Int) (w:World) (h1:1000000000 < n) : Calls Tryz.prog 114 #[.int .i64 n] w fun e w'=>e = .returned (.bool false)∧w = w':=by
 have h0:0≤n:=by omega
 have hd:decide (n≤1000000000) = false:=by rw [decide_eq_false_iff_not]; omega
 go_enter Tryz.func114,Tryz.ntmps114
 go_wp2
 go_ret
 exact ⟨by simp,rfl⟩
set_option maxHeartbeats 1000000 in
theorem shieldP31 (s:ShT) (w:World) (h:ShOk s) : Calls Tryz.prog 113 #[.agg #[.int .i64 s.fixed,.int .i64 s.dependent,.int .i64 s.lower,.int .i64 s.share,.int .i64 s.top]] w fun e w'=>e = .returned (.bool true)∧Below w.heap.size w w':=by
 obtain ⟨f0,f1,d0,d1,l0,l1,s0,s1,t0,t1⟩:=h
 go_enter Tryz.func113,Tryz.ntmps113
 go_wp2_with (go_at_call 114; refine (amtP31 _ _ (by omega) (by omega)).mono ?_; rintro e w' ⟨rfl,rfl⟩)
 go_ret
 exact ⟨rfl,below_new _ _⟩
set_option maxRecDepth 100000 in
set_option maxHeartbeats 1000000 in
theorem checkP31 (s:ShT) (net deps : Int) (w:World) (h:ShOk s) (n0:0≤net) (d0:0≤deps) (d1:deps≤20) : Calls Tryz.prog 59 #[.agg #[.int .i64 s.fixed,.int .i64 s.dependent,.int .i64 s.lower,.int .i64 s.share,.int .i64 s.top],.int .i64 net,.int .i64 deps] w fun e w'=>e = .returned (.int .i64 (if net≤1000000000 then 0 else 2))∧Below w.heap.size w w':=by
 by_cases hn:net≤1000000000
 ·
  rw [if_pos hn]
  go_enter Tryz.func59,Tryz.ntmps59
  go_wp2_with fail
  refine (shieldP31 s _ h).mono ?_
  rintro e w1 ⟨rfl,hb1⟩
  have hbel:=bel_adv (below_new w _) hb1
  go_wp2_with (go_at_call 114; refine (amtP31 _ _ n0 hn).mono ?_; rintro e w' ⟨rfl,rfl⟩)
  go_ret
  exact ⟨rfl,hbel⟩
 ·
  rw [if_neg hn]
  go_enter Tryz.func59,Tryz.ntmps59
  go_wp2_with fail
  refine (shieldP31 s _ h).mono ?_
  rintro e w1 ⟨rfl,hb1⟩
  have hbel:=bel_adv (below_new w _) hb1
  go_wp2_with (go_at_call 114; refine (amtP31_no _ _ (by omega)).mono ?_; rintro e w' ⟨rfl,rfl⟩)
  go_ret
  exact ⟨rfl,hbel⟩
set_option maxRecDepth 100000 in
set_option maxHeartbeats 1000000 in
theorem lowerP31 (s:ShT) (net deps : Int) (w:World) (h:ShOk s) (n0:0≤net) (n1:net≤1000000000) (d0:0≤deps) (d1:deps≤20) : Calls Tryz.prog 24 #[.agg #[.int .i64 s.fixed,.int .i64 s.dependent,.int .i64 s.lower,.int .i64 s.share,.int .i64 s.top],.int .i64 net,.int .i64 deps] w fun e w'=>e = .returned (.tuple #[.int .i64 (lowN s net deps),.int .i64 0])∧Below w.heap.size w w':=by
 obtain ⟨_,_,_,q0,q1⟩:=prot_bd h n0 n1 d0 d1
 have l0:=h.l0
 have l1:=h.l1
 have f1:=h.f1
 have HL:Hid (lowN s net deps = min net (s.lower+s.dependent * deps)):=rfl
 have hcon:=fun w=>checkP31 s net deps w h n0 d0 d1
 rw [if_pos n1] at hcon
 have HC:=Lib.hid hcon
 clear hcon h
 have hB1:=Blk.new w 43 #[.int .i64 s.fixed,.int .i64 s.dependent,.int .i64 s.lower,.int .i64 s.share,.int .i64 s.top]
 have hbel:=below_new w (.cells #[.int .i64 s.fixed,.int .i64 s.dependent,.int .i64 s.lower,.int .i64 s.share,.int .i64 s.top] 43)
 go_enter Tryz.func24,Tryz.ntmps24
 go_upto_region 1 with fail
 generalize w.alloc (Obj.cells _ _) = W at hB1 hbel ⊢
 have z0:=hB1.cell 0
 have z1:=hB1.cell 1
 have z2:=hB1.cell 2
 have z3:=hB1.cell 3
 have z4:=hB1.cell 4
 simp only [nqg,nqh,nqi] at z0 z1 z2 z3 z4
 go_wp2_with fail
 refine Calls.mono (HC.out _) ?_
 rintro e w1 ⟨rfl,hb1⟩
 have hB2:=hB1.adv hb1
 have hbel1:=bel_adv hbel hb1
 clear hB1 hb1 z0 z1 z2 z3 z4
 have z0:=hB2.cell 0
 have z1:=hB2.cell 1
 have z2:=hB2.cell 2
 have z3:=hB2.cell 3
 have z4:=hB2.cell 4
 simp only [nqg,nqh,nqi] at z0 z1 z2 z3 z4
 go_wp2
 all_goals
  go_ret2
  refine ⟨?_,hbel1⟩
  rw [HL.out]
  exact congrArg (fun n:Int=>Ending.returned (.tuple #[.int .i64 n,.int .i64 0])) (by (repeat' split) <;> omega)
set_option maxRecDepth 100000 in
set_option maxHeartbeats 1000000 in
theorem protectedP31_no (s:ShT) (net deps : Int) (w:World) (h:ShOk s) (n0:0≤net) (n1 : ¬ net≤1000000000) (d0:0≤deps) (d1:deps≤20) : Calls Tryz.prog 23 #[.agg #[.int .i64 s.fixed,.int .i64 s.dependent,.int .i64 s.lower,.int .i64 s.share,.int .i64 s.top],.int .i64 net,.int .i64 deps] w fun e w'=>e = .returned (.tuple #[.int .i64 0,.int .i64 2])∧Below w.heap.size w w':=by
 have hcon:=fun w=>checkP31 s net deps w h n0 d0 d1
 rw [if_neg n1] at hcon
 have HC:=Lib.hid hcon
 clear hcon h
 have hbel:=below_new w (.cells #[.int .i64 s.fixed,.int .i64 s.dependent,.int .i64 s.lower,.int .i64 s.share,.int .i64 s.top] 43)
 go_enter Tryz.func23,Tryz.ntmps23
 go_wp2_with fail
 refine Calls.mono (HC.out _) ?_
 rintro e w1 ⟨rfl,hb1⟩
 go_wp2
 go_ret2
 exact ⟨rfl,bel_adv hbel hb1⟩
set_option maxRecDepth 100000 in
set_option maxHeartbeats 2000000 in
theorem protectedP31 (s:ShT) (net deps : Int) (w:World) (h:ShOk s) (n0:0≤net) (n1:net≤1000000000) (d0:0≤deps) (d1:deps≤20) : Calls Tryz.prog 23 #[.agg #[.int .i64 s.fixed,.int .i64 s.dependent,.int .i64 s.lower,.int .i64 s.share,.int .i64 s.top],.int .i64 net,.int .i64 deps] w fun e w'=>e = .returned (.tuple #[.int .i64 (protN s net deps),.int .i64 0])∧Below w.heap.size w w':=by
 obtain ⟨⟨p0,p1⟩,⟨r0,r1⟩,_,q0,q1⟩:=prot_bd h n0 n1 d0 d1
 have f0:=h.f0
 have f1:=h.f1
 have t0:=h.t0
 have t1:=h.t1
 have sh0:=h.s0
 have sh1:=h.s1
 have HP:Hid (protN s net deps = if net≤protP s deps then net else protP s deps+partN (min net (max s.top (protP s deps)) - protP s deps) s.share 1000000 1 3):=rfl
 have hpe:s.fixed+s.dependent * deps = protP s deps:=rfl
 have hcon:=fun w=>checkP31 s net deps w h n0 d0 d1
 rw [if_pos n1] at hcon
 have HC:=Lib.hid hcon
 have HPE:=Lib.hid hpe
 clear hcon h
 have hB1:=Blk.new w 43 #[.int .i64 s.fixed,.int .i64 s.dependent,.int .i64 s.lower,.int .i64 s.share,.int .i64 s.top]
 have hbel:=below_new w (.cells #[.int .i64 s.fixed,.int .i64 s.dependent,.int .i64 s.lower,.int .i64 s.share,.int .i64 s.top] 43)
 generalize protP s deps = pp at *
 generalize hpn:protN s net deps = pn at *
 have HPN:=Lib.hid hpn
 clear hpn
 by_cases hle:net≤pp
 ·
  have HP2:Hid (pn = net):=by rw [Hid,HP.out,if_pos hle]
  clear HP
  go_enter Tryz.func23,Tryz.ntmps23
  go_upto_region 1 with fail
  generalize w.alloc (Obj.cells _ _) = W at hB1 hbel ⊢
  have z0:=hB1.cell 0
  have z1:=hB1.cell 1
  have z2:=hB1.cell 2
  have z3:=hB1.cell 3
  have z4:=hB1.cell 4
  simp only [nqg,nqh,nqi] at z0 z1 z2 z3 z4
  go_wp2_with fail
  refine Calls.mono (HC.out _) ?_
  rintro e w1 ⟨rfl,hb1⟩
  have hB2:=hB1.adv hb1
  have hbel1:=bel_adv hbel hb1
  clear hB1 hb1 z0 z1 z2 z3 z4
  have z0:=hB2.cell 0
  have z1:=hB2.cell 1
  have z2:=hB2.cell 2
  have z3:=hB2.cell 3
  have z4:=hB2.cell 4
  simp only [nqg,nqh,nqi] at z0 z1 z2 z3 z4
  go_wp2
  go_ret2
  refine ⟨?_,hbel1⟩
  rw [HP2.out]
  rfl
 ·
  have hmx:∃ mm,mm = min net (max s.top pp) - pp∧(net≤s.top∧mm = net - pp ∨ s.top < net∧pp≤s.top∧mm = s.top - pp ∨ s.top < pp∧mm = 0):=⟨_,rfl,by omega⟩
  obtain ⟨mm,hmm,hcs⟩:=hmx
  have HP2:Hid (pn = pp+partN mm s.share 1000000 1 3):=by rw [Hid,HP.out,if_neg hle,hmm]
  obtain ⟨E1,hN,b0,b1⟩:=part_ok (a:=mm) (unit:=1) (mode:=3) (by omega) (by omega) sh0 sh1 (by decide) (by decide) (by decide) (by decide)
  rw [← hN] at b0 b1
  have b2:partN mm s.share 1000000 1 3≤2000000000:=by omega
  have HE1:=Lib.hid E1
  clear HP hmm hN E1 b1
  rcases hcs with ⟨k1,rfl⟩ | ⟨k1,k2,rfl⟩ | ⟨k1,rfl⟩
  all_goals
   go_enter Tryz.func23,Tryz.ntmps23
   go_upto_region 1 with fail
   generalize w.alloc (Obj.cells _ _) = W at hB1 hbel ⊢
   have z0:=hB1.cell 0
   have z1:=hB1.cell 1
   have z2:=hB1.cell 2
   have z3:=hB1.cell 3
   have z4:=hB1.cell 4
   simp only [nqg,nqh,nqi] at z0 z1 z2 z3 z4
   go_wp2_with fail
   refine Calls.mono (HC.out _) ?_
   rintro e w1 ⟨rfl,hb1⟩
   have hB2:=hB1.adv hb1
   have hbel1:=bel_adv hbel hb1
   clear hB1 hb1 z0 z1 z2 z3 z4
   have z0:=hB2.cell 0
   have z1:=hB2.cell 1
   have z2:=hB2.cell 2
   have z3:=hB2.cell 3
   have z4:=hB2.cell 4
   simp only [nqg,nqh,nqi] at z0 z1 z2 z3 z4
   go_wp2_with fail
   refine (part_any _ _ _ _ _ _).mono ?_
   rintro e w' ⟨rfl,q,rfl⟩
   rw [HE1.out]
   go_wp2
   go_ret2
   refine ⟨?_,below_drewN hbel1 q⟩
   rw [HP2.out]
   rfl
set_option maxHeartbeats 1000000 in
theorem claimP31 (o:OrdT) (w:World) : Calls Tryz.prog 209 #[.agg #[.string o.id,.int .i64 o.rank,.int .i64 o.day,.int .i64 o.amount,.int .i64 o.total]] w fun e w'=>e = .returned (.int .i64 (claimN o))∧Below w.heap.size w w':=by
 have HC:Hid (claimN o = if o.amount = 0 then o.total else min o.amount o.total):=rfl
 by_cases h0:o.amount = 0
 ·
  have h0':(o.amount == 0) = true:=by simp [h0]
  go_enter Tryz.func209,Tryz.ntmps209
  go_wp2
  go_ret
  exact ⟨by rw [HC.out,if_pos h0]; rfl,below_new _ _⟩
 ·
  have h0':(o.amount == 0) = false:=by rw [beq_eq_false_iff_ne]; exact h0
  go_enter Tryz.func209,Tryz.ntmps209
  go_wp2
  all_goals
   go_ret
   refine ⟨?_,below_new _ _⟩
   rw [HC.out,if_neg h0]
   exact congrArg (fun n:Int=>Ending.returned (.int .i64 n)) (by (repeat' split) <;> omega)
set_option maxRecDepth 100000 in
set_option maxHeartbeats 4000000 in
theorem ordersP31 (A:Option Addr) (cap:Nat) (l:List OrdT) (w:World) (h:SliceOf encOd 5 w w.heap.size A l) (hO:OrdsOk l) :
  Calls Tryz.prog 157 #[.slice A l.length cap] w fun e w'=>e = .returned (.bool true)∧Below w.heap.size w w':=by
 have hl:=hO.len
 have HO:=Lib.hid hO
 clear hO
 go_enter Tryz.func157,Tryz.ntmps157
 go_wp2
 go_loopw [10] (fun i wr=>∃ k:Nat,k≤l.length∧i = .int .i64 k∧Below w.heap.size w wr) (fun i _=>l.length - (intOf i).toNat)
 case atStart=>exact ⟨0,by omega,rfl,Below.refl _ _⟩
 case round =>
  obtain ⟨k,hk,rfl,hbel⟩:=hrel
  have hbs:=hbel.size
  by_cases hlt:k < l.length
  ·
   have ho:=HO.out.ok _ (List.getElem_mem hlt)
   have hsz:=name_max ho.name
   have hnm:=ho.name
   have r0:=ho.r0
   have r1:=ho.r1
   have d0:=ho.d0
   have d1:=ho.d1
   have a0:=ho.a0
   have a1:=ho.a1
   have t0:=ho.t0
   have t1:=ho.t1
   have HNM:=Lib.hid hnm
   clear ho hnm
   obtain ⟨b,off,rfl,hb,hc⟩:=(h.below hbel).at_ hlt
   have c0:=hc 0 _ rfl
   have c1:=hc 1 _ rfl
   have c2:=hc 2 _ rfl
   have c3:=hc 3 _ rfl
   have c4:=hc 4 _ rfl
   simp only [Nat.add_zero] at c0
   have hki:(k:Int) < (l.length:Int):=by omega
   have hbw:b < wr.heap.size:=by omega
   clear hc
   rcases k with _ | m
   ·
    have hk0:(0:Int) < (l.length:Int):=by omega
    simp only [Nat.zero_mul,Nat.add_zero] at c0 c1 c2 c3 c4
    go_wp2_with fail
    refine (isName_any _ _ hsz).mono ?_
    rintro e w' ⟨rfl,rfl⟩
    rw [HNM.out]
    go_wp2
    go_quiet (fail)
    go_wp2_with fail
    refine (amtP31 _ _ a0 a1).mono ?_
    rintro e w' ⟨rfl,rfl⟩
    go_wp2_with fail
    refine (amtP31 _ _ t0 t1).mono ?_
    rintro e w' ⟨rfl,rfl⟩
    go_wp2
    go_roundw
    case rel=>exact ⟨1,by omega,by go_num,below_drewN (hbel.alloc hbs _) _⟩
    case measure=>simp [intOf]; omega
   ·
    have hlm:m < l.length:=by omega
    obtain ⟨b2,off2,hA3,hb2,hc2⟩:=(h.below hbel).at_ hlm
    injection hA3 with hA3
    injection hA3 with hA3 hA4
    subst hA3 hA4
    have p0:=hc2 0 _ rfl
    simp only [Nat.add_zero] at p0
    clear hc2
    have hasc:=List.pairwise_iff_getElem.1 HO.out.asc m (m+1) hlm hlt (by omega)
    have hmi:(m:Int) < (l.length:Int):=by omega
    have hmi2:(m:Int)+1 < (l.length:Int):=by omega
    have hp:decide ((0:Int) < (m:Int)+1) = true:=by rw [decide_eq_true_eq]; omega
    go_wp2_with fail
    refine (isName_any _ _ hsz).mono ?_
    rintro e w' ⟨rfl,rfl⟩
    rw [HNM.out]
    go_wp2
    go_quiet (fail)
    go_wp2_with fail
    refine (amtP31 _ _ a0 a1).mono ?_
    rintro e w' ⟨rfl,rfl⟩
    go_wp2_with fail
    refine (amtP31 _ _ t0 t1).mono ?_
    rintro e w' ⟨rfl,rfl⟩
    go_wp2
    go_roundw
    case rel=>exact ⟨m+2,by omega,by go_num,below_drewN (hbel.alloc hbs _) _⟩
    case measure=>simp [intOf]; omega
  ·
   go_wp2
   go_ret
   exact ⟨rfl,hbel⟩
end Go.Proofs.YtlhkojcmcmkmaaaGreat
