/- Joined texts: R31 R31b. Conditions: as stated. -/
import Derived.Deep.Light
import Derived.Test.YtjncpgbhokjbfaaGreatJ18
import Derived.Test.YtjncpgbhokjbfaaGreatJ19
namespace Go.Proofs.YtjncpgbhokjbfaaGreat
open Go.RowKit
def aggSh (s:ShT) : Value:=.agg #[.int .i64 s.fixed,.int .i64 s.dependent,.int .i64 s.lower,.int .i64 s.share,.int .i64 s.top]
set_option maxHeartbeats 400000 in
theorem in31_any (n m : Int) (w:World) : Calls Tryz.prog 150 #[.int .i64 n,.int .i64 m] w fun e w'=>e = .returned (.bool (inB n m))∧w = w':=by
 by_cases h1:0≤n <;> by_cases h2:n≤m
 all_goals
  have hb:inB n m = (decide (0≤n) && decide (n≤m)):=by simp [inB]
  have HB:=Lib.hid hb; clear hb
  go_enter Tryz.func150,Tryz.ntmps150
  go_wp2
  go_ret
  exact ⟨by rw [HB.out]; simp [h1,h2],rfl⟩
set_option maxHeartbeats 1000000 in
theorem shield31_yes (s:ShT) (w:World) (h:ShOk s) : Calls Tryz.prog 107 #[aggSh s] w fun e w'=>e = .returned (.bool true)∧Below w.heap.size w w':=by
 have g1:inB s.fixed 1000000000 = true:=inB_iff.2 ⟨h.f0,h.f1⟩
 have g2:inB s.dependent 1000000000 = true:=inB_iff.2 ⟨h.d0,h.d1⟩
 have g3:inB s.lower s.fixed = true:=inB_iff.2 ⟨h.l0,h.l1⟩
 have g4:inB s.top 1000000000 = true:=inB_iff.2 ⟨h.t0,h.t1⟩
 have g5:inB s.share 1000000 = true:=inB_iff.2 ⟨h.s0,h.s1⟩
 clear h
 unfold aggSh
 go_enter Tryz.func107,Tryz.ntmps107
 go_wp2_with (go_at_call 150; refine (in31_any _ _ _).mono ?_; rintro e w' ⟨rfl,rfl⟩; (first | rw [g1] | rw [g2] | rw [g3] | rw [g4] | rw [g5]))
 go_ret
 exact ⟨rfl,below_new _ _⟩
set_option maxRecDepth 100000 in
set_option maxHeartbeats 1000000 in
theorem check31_any (s:ShT) (net deps : Int) (w:World) (h:ShOk s) (n0:0≤net) (d0:0≤deps) (d1:deps≤20) : Calls Tryz.prog 151 #[aggSh s,.int .i64 net,.int .i64 deps] w fun e w'=>e = .returned (.int .i64 (if net≤1000000000 then 0 else 2))∧Below w.heap.size w w':=by
 have hi2:inB deps 20 = true:=inB_iff.2 ⟨d0,d1⟩
 have hcon:=shield31_yes s
 unfold aggSh at hcon ⊢
 by_cases hn:net≤1000000000
 ·
  have hi1:inB net 1000000000 = true:=inB_iff.2 ⟨n0,hn⟩
  rw [if_pos hn]
  go_enter Tryz.func151,Tryz.ntmps151
  go_wp2_with fail
  refine (hcon _ h).mono ?_
  rintro e w1 ⟨rfl,hb1⟩
  have hbel:=bel_adv (below_new w _) hb1
  go_wp2_with (go_at_call 150; refine (in31_any _ _ _).mono ?_; rintro e w' ⟨rfl,rfl⟩; (first | rw [hi1] | rw [hi2]))
  go_ret
  exact ⟨rfl,hbel⟩
 ·
  have hi1:inB net 1000000000 = false:=inB_no.2 (.inr (by omega))
  rw [if_neg hn]
  go_enter Tryz.func151,Tryz.ntmps151
  go_wp2_with fail
  refine (hcon _ h).mono ?_
  rintro e w1 ⟨rfl,hb1⟩
  have hbel:=bel_adv (below_new w _) hb1
  go_wp2_with (go_at_call 150; refine (in31_any _ _ _).mono ?_; rintro e w' ⟨rfl,rfl⟩; (first | rw [hi1] | rw [hi2]))
  go_ret
  exact ⟨rfl,hbel⟩
set_option maxRecDepth 100000 in
set_option maxHeartbeats 1000000 in
theorem lower31_ok (s:ShT) (net deps : Int) (w:World) (h:ShOk s) (n0:0≤net) (n1:net≤1000000000) (d0:0≤deps) (d1:deps≤20) : Calls Tryz.prog 109 #[aggSh s,.int .i64 net,.int .i64 deps] w fun e w'=>e = .returned (.tuple #[.int .i64 (lowN s net deps),.int .i64 0])∧Below w.heap.size w w':=by
 obtain ⟨_,_,_,q0,q1⟩:=prot_bd h n0 n1 d0 d1
 have l0:=h.l0
 have l1:=h.l1
 have f1:=h.f1
 have HL:Hid (lowN s net deps = min net (s.lower+s.dependent * deps)):=rfl
 have hcon:=fun w=>check31_any s net deps w h n0 d0 d1
 rw [if_pos n1] at hcon
 have HC:=Lib.hid hcon
 clear hcon h
 have hB1:=Blk.new w 71 #[.int .i64 s.fixed,.int .i64 s.dependent,.int .i64 s.lower,.int .i64 s.share,.int .i64 s.top]
 have hbel:=below_new w (.cells #[.int .i64 s.fixed,.int .i64 s.dependent,.int .i64 s.lower,.int .i64 s.share,.int .i64 s.top] 71)
 unfold aggSh at HC ⊢
 go_enter Tryz.func109,Tryz.ntmps109
 go_upto_region 1 with fail
 generalize w.alloc (Obj.cells _ _) = W at hB1 hbel ⊢
 have z0:=hB1.cell 0
 have z1:=hB1.cell 1
 have z2:=hB1.cell 2
 have z3:=hB1.cell 3
 have z4:=hB1.cell 4
 simp only [nqg,nqh,nqi] at z0 z1 z2 z3 z4
 go_wp2_with fail
 refine Calls.mono (HC.out _) ?_
 rintro e w1 ⟨rfl,hb1⟩
 have hB2:=hB1.adv hb1
 have hbel1:=bel_adv hbel hb1
 clear hB1 hb1 z0 z1 z2 z3 z4
 have z0:=hB2.cell 0
 have z1:=hB2.cell 1
 have z2:=hB2.cell 2
 have z3:=hB2.cell 3
 have z4:=hB2.cell 4
 simp only [nqg,nqh,nqi] at z0 z1 z2 z3 z4
 go_wp2
 all_goals
  go_ret2
  refine ⟨?_,hbel1⟩
  rw [HL.out]
  exact congrArg (fun n:Int=>Ending.returned (.tuple #[.int .i64 n,.int .i64 0])) (by omega)
set_option maxRecDepth 100000 in
set_option maxHeartbeats 2000000 in
theorem protected31_ok (s:ShT) (net deps : Int) (w:World) (h:ShOk s) (n0:0≤net) (n1:net≤1000000000) (d0:0≤deps) (d1:deps≤20) : Calls Tryz.prog 110 #[aggSh s,.int .i64 net,.int .i64 deps] w fun e w'=>e = .returned (.tuple #[.int .i64 (protN s net deps),.int .i64 0])∧Below w.heap.size w w':=by
 obtain ⟨⟨p0,p1⟩,⟨r0,r1⟩,_,q0,q1⟩:=prot_bd h n0 n1 d0 d1
 have f0:=h.f0
 have f1:=h.f1
 have t0:=h.t0
 have t1:=h.t1
 have sh0:=h.s0
 have sh1:=h.s1
 have HP:Hid (protN s net deps = if net≤protP s deps then net else protP s deps+partN (min net (max s.top (protP s deps)) - protP s deps) s.share 1000000 1 3):=rfl
 have hpe:s.fixed+s.dependent * deps = protP s deps:=rfl
 have hcon:=fun w=>check31_any s net deps w h n0 d0 d1
 rw [if_pos n1] at hcon
 have HC:=Lib.hid hcon
 have HPE:=Lib.hid hpe
 clear hcon h
 have hB1:=Blk.new w 71 #[.int .i64 s.fixed,.int .i64 s.dependent,.int .i64 s.lower,.int .i64 s.share,.int .i64 s.top]
 have hbel:=below_new w (.cells #[.int .i64 s.fixed,.int .i64 s.dependent,.int .i64 s.lower,.int .i64 s.share,.int .i64 s.top] 71)
 unfold aggSh at HC ⊢
 generalize protP s deps = pp at *
 generalize hpn:protN s net deps = pn at *
 have HPN:=Lib.hid hpn
 clear hpn
 by_cases hle:net≤pp
 ·
  have HP2:Hid (pn = net):=by rw [Hid,HP.out,if_pos hle]
  clear HP
  go_enter Tryz.func110,Tryz.ntmps110
  go_upto_region 1 with fail
  generalize w.alloc (Obj.cells _ _) = W at hB1 hbel ⊢
  have z0:=hB1.cell 0
  have z1:=hB1.cell 1
  have z2:=hB1.cell 2
  have z3:=hB1.cell 3
  have z4:=hB1.cell 4
  simp only [nqg,nqh,nqi] at z0 z1 z2 z3 z4
  go_wp2_with fail
  refine Calls.mono (HC.out _) ?_
  rintro e w1 ⟨rfl,hb1⟩
  have hB2:=hB1.adv hb1
  have hbel1:=bel_adv hbel hb1
  clear hB1 hb1 z0 z1 z2 z3 z4
  have z0:=hB2.cell 0
  have z1:=hB2.cell 1
  have z2:=hB2.cell 2
  have z3:=hB2.cell 3
  have z4:=hB2.cell 4
  simp only [nqg,nqh,nqi] at z0 z1 z2 z3 z4
  go_wp2
  go_ret2
  refine ⟨?_,hbel1⟩
  rw [HP2.out]
  rfl
 ·
  have hmx:∃ mm,mm = min net (max s.top pp) - pp∧(net≤s.top∧mm = net - pp ∨ s.top < net∧pp≤s.top∧mm = s.top - pp ∨ s.top < pp∧mm = 0):=⟨_,rfl,by omega⟩
  obtain ⟨mm,hmm,hcs⟩:=hmx
  have HP2:Hid (pn = pp+partN mm s.share 1000000 1 3):=by rw [Hid,HP.out,if_neg hle,hmm]
  have hb0:0≤partN mm s.share 1000000 1 3∧partN mm s.share 1000000 1 3≤1000000000:=by
   have:=rate_part mm s.share 3 (by omega) (by omega) sh0 sh1 (by decide)
   omega
  obtain ⟨b0,b1⟩:=hb0
  clear HP hmm
  rcases hcs with ⟨k1,rfl⟩ | ⟨k1,k2,rfl⟩ | ⟨k1,rfl⟩
  all_goals
   go_enter Tryz.func110,Tryz.ntmps110
   go_upto_region 1 with fail
   generalize w.alloc (Obj.cells _ _) = W at hB1 hbel ⊢
   have z0:=hB1.cell 0
   have z1:=hB1.cell 1
   have z2:=hB1.cell 2
   have z3:=hB1.cell 3
   have z4:=hB1.cell 4
   simp only [nqg,nqh,nqi] at z0 z1 z2 z3 z4
   go_wp2_with fail
   refine Calls.mono (HC.out _) ?_
   rintro e w1 ⟨rfl,hb1⟩
   have hB2:=hB1.adv hb1
   have hbel1:=bel_adv hbel hb1
   clear hB1 hb1 z0 z1 z2 z3 z4
   have z0:=hB2.cell 0
   have z1:=hB2.cell 1
   have z2:=hB2.cell 2
   have z3:=hB2.cell 3
   have z4:=hB2.cell 4
   simp only [nqg,nqh,nqi] at z0 z1 z2 z3 z4
   go_wp2_with fail
   refine (part2_any _ _ _ _ _ _).mono ?_
   rintro e w' ⟨rfl,rfl⟩
   go_wp2
   go_ret2
   refine ⟨?_,hbel1⟩
   rw [HP2.out]
   rfl
set_option maxHeartbeats 1000000 in
theorem claim31_any (o:OrdT) (w:World) : Calls Tryz.prog 152 #[aggOd o] w fun e w'=>e = .returned (.int .i64 (claimN o))∧Below w.heap.size w w':=by
 have HC:Hid (claimN o = if o.amount = 0 then o.total else min o.amount o.total):=rfl
 unfold aggOd
 by_cases h0:o.amount = 0
 ·
  have h0':(o.amount == 0) = true:=by simp [h0]
  go_enter Tryz.func152,Tryz.ntmps152
  go_wp2
  go_ret
  exact ⟨by rw [HC.out,if_pos h0]; rfl,below_new _ _⟩
 ·
  have h0':(o.amount == 0) = false:=by rw [beq_eq_false_iff_ne]; exact h0
  go_enter Tryz.func152,Tryz.ntmps152
  go_wp2
  all_goals
   go_ret
   refine ⟨?_,below_new _ _⟩
   rw [HC.out,if_neg h0]
   exact congrArg (fun n:Int=>Ending.returned (.int .i64 n)) (by omega)
end Go.Proofs.YtjncpgbhokjbfaaGreat
namespace Go.Proofs.YtjncpgbhokjbfaaGreat
open Go.RowKit
set_option maxRecDepth 100000 in
set_option maxHeartbeats 4000000 in
theorem orders31_yes (A:Option Addr) (cap:Nat) (l:List OrdT) (w:World) (h:SliceOf encOd 5 w w.heap.size A l) (hO:OrdsOk l) :
  Calls Tryz.prog 108 #[.slice A l.length cap] w fun e w'=>e = .returned (.bool true)∧Below w.heap.size w w':=by
 have hl:=hO.len
 have HO:=Lib.hid hO
 clear hO
 go_enter Tryz.func108,Tryz.ntmps108
 go_wp2
 go_loopw [3] (fun i wr=>∃ k:Nat,k≤l.length∧i = .int .i64 k∧Below w.heap.size w wr) (fun i _=>l.length - (intOf i).toNat)
 case atStart=>exact ⟨0,by omega,rfl,Below.refl _ _⟩
 case round =>
  obtain ⟨k,hk,rfl,hbel⟩:=hrel
  have hbs:=hbel.size
  by_cases hlt:k < l.length
  ·
   have ho:=HO.out.ok _ (List.getElem_mem hlt)
   have hsz:=name_max ho.name
   have hnm:∀ W:World,Calls Tryz.prog 112 #[.string l[k].id] W fun e w'=>e = .returned (.bool true)∧Below W.heap.size W w':=fun W=>by
    have:=isName17_any l[k].id W hsz
    rw [ho.name] at this
    exact this
   have HNM:=Lib.hid hnm
   have jj:∀ (x m:Int),0≤x→x≤m→∀ W:World,Calls Tryz.prog 150 #[.int .i64 x,.int .i64 m] W fun e w'=>e = .returned (.bool true)∧W = w':=fun x m h0 h1 W=>by
    have:=in31_any x m W
    rw [inB_iff.2 ⟨h0,h1⟩] at this
    exact this
   have j1:=jj l[k].rank 9 ho.r0 ho.r1
   have j2:=jj l[k].day 84005 ho.d0 ho.d1
   have j3:=jj l[k].amount 1000000000 ho.a0 ho.a1
   have j4:=jj l[k].total 1000000000 ho.t0 ho.t1
   clear jj hnm ho
   obtain ⟨b,off,rfl,hb,hc⟩:=(h.adv hbel).at_ hlt
   have c0:=hc 0 _ rfl
   have c1:=hc 1 _ rfl
   have c2:=hc 2 _ rfl
   have c3:=hc 3 _ rfl
   have c4:=hc 4 _ rfl
   simp only [Nat.add_zero] at c0
   have hki:(k:Int) < (l.length:Int):=by omega
   clear hc
   rcases k with _ | m
   ·
    have hk0:(0:Int) < (l.length:Int):=by omega
    simp only [Nat.zero_mul,Nat.add_zero] at c0 c1 c2 c3 c4
    go_wp2_with fail
    have hWl:(wr.alloc (Obj.cells #[.string l[0].id,.int .i64 l[0].rank,.int .i64 l[0].day,.int .i64 l[0].amount,.int .i64 l[0].total] 199)).heap.size = wr.heap.size+1:=by simp
    have hWb:Below w.heap.size w (wr.alloc (Obj.cells #[.string l[0].id,.int .i64 l[0].rank,.int .i64 l[0].day,.int .i64 l[0].amount,.int .i64 l[0].total] 199)):=hbel.alloc hbs _
    have hWB:=Blk.new wr 199 #[.string l[0].id,.int .i64 l[0].rank,.int .i64 l[0].day,.int .i64 l[0].amount,.int .i64 l[0].total]
    generalize wr.alloc (Obj.cells _ _) = W at hWl hWb hWB  ⊢
    have e0:=Bw.cell (w:=W) (a:=⟨wr.heap.size,0,none⟩) (by show wr.heap.size < W.heap.size; omega) (hWB.cell 0)
    have e1:=Bw.cell (w:=W) (a:=⟨wr.heap.size,1,none⟩) (by show wr.heap.size < W.heap.size; omega) (hWB.cell 1)
    have e2:=Bw.cell (w:=W) (a:=⟨wr.heap.size,2,none⟩) (by show wr.heap.size < W.heap.size; omega) (hWB.cell 2)
    have e3:=Bw.cell (w:=W) (a:=⟨wr.heap.size,3,none⟩) (by show wr.heap.size < W.heap.size; omega) (hWB.cell 3)
    have e4:=Bw.cell (w:=W) (a:=⟨wr.heap.size,4,none⟩) (by show wr.heap.size < W.heap.size; omega) (hWB.cell 4)
    have HWs:Hid (w.heap.size≤W.heap.size):=by show w.heap.size≤W.heap.size; omega
    clear hWl hWB c0 c1 c2 c3 c4
    refine wp_region_below (by kernel_rfl) (by kernel_rfl) ?_
    repeat (first | go_big_quiet_step ((first | exact Bw.call _ (HNM.out _) | with_reducible exact Bw.call_same _ (j1 _) | with_reducible exact Bw.call_same _ (j2 _) | with_reducible exact Bw.call_same _ (j3 _) | with_reducible exact Bw.call_same _ (j4 _))))
    refine wpQuiet_nil ?_
    intro W2 hw'
    obtain ⟨⟨W9,hW2⟩,hw''⟩:=hw'
    subst hw''
    have hW3:Below w.heap.size w W2:=hWb.trans (hW2.mono HWs.out)
    go_wp2
    go_roundw
    case rel=>exact ⟨0+1,by omega,by go_num,hW3⟩
    case measure=>simp [intOf]; omega
   ·
    have hlm:m < l.length:=by omega
    obtain ⟨b2,off2,hA3,hb2,hc2⟩:=(h.adv hbel).at_ hlm
    injection hA3 with hA3
    injection hA3 with hA3 hA4
    subst hA3 hA4
    have p0:=hc2 0 _ rfl
    simp only [Nat.add_zero] at p0
    clear hc2
    have hasc:=List.pairwise_iff_getElem.1 HO.out.asc m (m+1) hlm hlt (by omega)
    have hbwr:b < wr.heap.size:=hb
    have hmi:(m:Int) < (l.length:Int):=by omega
    have hmi2:(m:Int)+1 < (l.length:Int):=by omega
    have hp:decide ((0:Int) < (m:Int)+1) = true:=by rw [decide_eq_true_eq]; omega
    go_wp2_with fail
    have hWl:(wr.alloc (Obj.cells #[.string l[m+1].id,.int .i64 l[m+1].rank,.int .i64 l[m+1].day,.int .i64 l[m+1].amount,.int .i64 l[m+1].total] 199)).heap.size = wr.heap.size+1:=by simp
    have hWb:Below w.heap.size w (wr.alloc (Obj.cells #[.string l[m+1].id,.int .i64 l[m+1].rank,.int .i64 l[m+1].day,.int .i64 l[m+1].amount,.int .i64 l[m+1].total] 199)):=hbel.alloc hbs _
    have hWB:=Blk.new wr 199 #[.string l[m+1].id,.int .i64 l[m+1].rank,.int .i64 l[m+1].day,.int .i64 l[m+1].amount,.int .i64 l[m+1].total]
    have hWp:=(World.cell?_alloc_past (w:=wr) (Obj.cells #[.string l[m+1].id,.int .i64 l[m+1].rank,.int .i64 l[m+1].day,.int .i64 l[m+1].amount,.int .i64 l[m+1].total] 199) b (off+m * 5) hbwr).trans p0
    generalize wr.alloc (Obj.cells _ _) = W at hWl hWb hWB hWp ⊢
    have e0:=Bw.cell (w:=W) (a:=⟨wr.heap.size,0,none⟩) (by show wr.heap.size < W.heap.size; omega) (hWB.cell 0)
    have e1:=Bw.cell (w:=W) (a:=⟨wr.heap.size,1,none⟩) (by show wr.heap.size < W.heap.size; omega) (hWB.cell 1)
    have e2:=Bw.cell (w:=W) (a:=⟨wr.heap.size,2,none⟩) (by show wr.heap.size < W.heap.size; omega) (hWB.cell 2)
    have e3:=Bw.cell (w:=W) (a:=⟨wr.heap.size,3,none⟩) (by show wr.heap.size < W.heap.size; omega) (hWB.cell 3)
    have e4:=Bw.cell (w:=W) (a:=⟨wr.heap.size,4,none⟩) (by show wr.heap.size < W.heap.size; omega) (hWB.cell 4)
    have e99:=Bw.cell (w:=W) (a:=⟨b,off+m * 5,none⟩) (by show b < W.heap.size; omega) hWp
    clear hWp p0
    have HWs:Hid (w.heap.size≤W.heap.size):=by show w.heap.size≤W.heap.size; omega
    clear hWl hWB c0 c1 c2 c3 c4
    refine wp_region_below (by kernel_rfl) (by kernel_rfl) ?_
    repeat (first | go_big_quiet_step ((first | exact Bw.call _ (HNM.out _) | with_reducible exact Bw.call_same _ (j1 _) | with_reducible exact Bw.call_same _ (j2 _) | with_reducible exact Bw.call_same _ (j3 _) | with_reducible exact Bw.call_same _ (j4 _))))
    refine wpQuiet_nil ?_
    intro W2 hw'
    obtain ⟨⟨W9,hW2⟩,hw''⟩:=hw'
    subst hw''
    have hW3:Below w.heap.size w W2:=hWb.trans (hW2.mono HWs.out)
    go_wp2
    go_roundw
    case rel=>exact ⟨m+1+1,by omega,by go_num,hW3⟩
    case measure=>simp [intOf]; omega
  ·
   go_wp2
   go_ret
   exact ⟨rfl,hbel⟩
end Go.Proofs.YtjncpgbhokjbfaaGreat
