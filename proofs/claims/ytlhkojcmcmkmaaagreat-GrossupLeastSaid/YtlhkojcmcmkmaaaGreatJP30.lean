/- Joined texts: P30 P30b P32h. Conditions: as stated. -/
import Derived.Test.YtlhkojcmcmkmaaaGreatJR30b
import Derived.Test.YtlhkojcmcmkmaaaGreatJBox
import Derived.Test.YtlhkojcmcmkmaaaGreatJP29b
namespace Go.Proofs.YtlhkojcmcmkmaaaGreat
open Go.RowKit
set_option maxHeartbeats 400000 in
theorem amtP30 (n:Int) (w:World) (h0:0≤n) (h1:n≤1000000000) : Calls Tryz.prog 164 #[.int .i64 n] w fun e w'=>e = .returned (.bool true)∧w = w':=by
 go_enter Tryz.func164,Tryz.ntmps164
 go_wp2
 go_ret
 exact ⟨rfl,rfl⟩
set_option maxHeartbeats 400000 in
theorem whP30 (n:Int) (w:World) (h0 : -1000000000000≤n) (h1:n≤1000000000000) : Calls Tryz.prog 165 #[.int .i64 n] w fun e w'=>e = .returned (.bool true)∧w = w':=by
 go_enter Tryz.func165,Tryz.ntmps165
 go_wp2
 go_ret
 exact ⟨rfl,rfl⟩
set_option maxRecDepth 100000 in
set_option maxHeartbeats 2000000 in
theorem tableP30 (A:Option Addr) (cap:Nat) (t:List RowT) (w:World) (h:SliceOf encRw 2 w w.heap.size A t) (hB:RowsOk t) :
  Calls Tryz.prog 192 #[.slice A t.length cap] w fun e w'=>e = .returned (.bool true)∧Below w.heap.size w w':=by
 have HB:=Lib.hid hB
 have hne:=hB.ne
 have hl:=hB.len
 have hz:=hB.zero
 rw [rwD hne] at hz
 obtain ⟨b,off,rfl,hb,hc⟩:=h.at_ hne
 have d0:=hc 0 _ rfl
 simp only [Nat.add_zero,Nat.zero_mul] at d0
 rw [hz] at d0
 have hi0:(0:Int) < (t.length:Int):=by omega
 clear hz hc hB
 go_enter Tryz.func192,Tryz.ntmps192
 go_wp2
 go_loopw [22] (fun i wr=>∃ k:Nat,k≤t.length∧i = .int .i64 k∧Below w.heap.size w wr) (fun i _=>t.length - (intOf i).toNat)
 case atStart=>exact ⟨0,by omega,rfl,Below.refl _ _⟩
 case round =>
  obtain ⟨k,hk,rfl,hbel⟩:=hrel
  have hbs:=hbel.size
  by_cases hlt:k < t.length
  ·
   have hx:SliceOf encRw 2 wr w.heap.size (some ⟨b,off,none⟩) t:=h.below hbel
   have h1:=HB.out.hi k hlt
   have h2:=HB.out.t0 k hlt
   have h3:=HB.out.t1 k hlt
   rw [rwD hlt] at h1 h2 h3
   obtain ⟨b1,off1,hA1,hb1,hc1⟩:=hx.at_ hlt
   injection hA1 with hA1
   injection hA1 with hA1 hA2
   subst hA1 hA2
   have c0:=hc1 0 _ rfl
   have c1:=hc1 1 _ rfl
   simp only [Nat.add_zero] at c0
   have hki:(k:Int) < (t.length:Int):=by omega
   have g1:decide (1000000000 < t[k].frm) = false:=by simp; omega
   have hbw:b < wr.heap.size:=by omega
   clear hc1
   rcases k with _ | m
   ·
    have hk0:(0:Int) < (t.length:Int):=by omega
    simp only [Nat.zero_mul,Nat.add_zero] at c0 c1
    go_wp2
    go_quiet ((go_at_call 164; exact Calls.quiet_of_same ((amtP30 _ _ h2 h3).mono fun e w' ⟨h1,h2⟩=>⟨h1,h2.symm⟩)))
    go_wp2
    go_roundw
    case rel=>exact ⟨1,by omega,by go_num,below_drewN (hbel.alloc hbs _) _⟩
    case measure=>simp [intOf]; omega
   ·
    have hlm:m < t.length:=by omega
    have ha:=HB.out.asc m hlt
    rw [rwD hlm,rwD hlt] at ha
    obtain ⟨b2,off2,hA3,hb2,hc2⟩:=hx.at_ hlm
    injection hA3 with hA3
    injection hA3 with hA3 hA4
    subst hA3 hA4
    have e0:=hc2 0 _ rfl
    simp only [Nat.add_zero] at e0
    clear hc2
    have g0:decide (t[m+1].frm≤t[m].frm) = false:=by simp; omega
    have hmi:(m:Int) < (t.length:Int):=by omega
    have hmi2:(m:Int)+1 < (t.length:Int):=by omega
    have hp:decide ((0:Int) < (m:Int)+1) = true:=by rw [decide_eq_true_eq]; omega
    go_wp2
    go_quiet ((go_at_call 164; exact Calls.quiet_of_same ((amtP30 _ _ h2 h3).mono fun e w' ⟨h1,h2⟩=>⟨h1,h2.symm⟩)))
    go_wp2
    go_roundw
    case rel=>exact ⟨m+2,by omega,by go_num,below_drewN (hbel.alloc hbs _) _⟩
    case measure=>simp [intOf]; omega
  ·
   go_wp2
   go_ret
   exact ⟨rfl,hbel⟩
set_option maxRecDepth 100000 in
set_option maxHeartbeats 4000000 in
theorem validP30 (m:TarM) (w:World) (h:m.In w) (hT:TarOk m.t) : Calls Tryz.prog 155 #[.agg #[.int .i64 m.t.method,.slice m.Ab m.t.brs.length m.cb,.int .i64 m.t.allowance,.int .i64 m.t.credit,.int .i64 m.t.unit,.int .i64 m.t.mode,.slice m.Ar m.t.rows.length m.cr]] w fun e w'=>e = .returned (.bool true)∧Below w.heap.size w w':=by
 obtain ⟨⟨method,brs,al,cr,unit,mode,rows⟩,Ab,cb,Ar,cr'⟩:=m
 obtain ⟨hb,hr⟩:=h
 obtain ⟨m0,m1,hbr,a0,a1,c0,c1,u0,u1,mo0,mo1,hrows,hnone⟩:=hT
 simp only at hb hr m0 m1 hbr a0 a1 c0 c1 u0 u1 mo0 mo1 hrows hnone ⊢
 have HBR:=Lib.hid hbr
 have HRW:=Lib.hid hrows
 have HNO:=Lib.hid hnone
 clear hbr hrows hnone
 have hB:=Blk.new w 41 #[.int .i64 method,.slice Ab brs.length cb,.int .i64 al,.int .i64 cr,.int .i64 unit,.int .i64 mode,.slice Ar rows.length cr']
 have hbel:=below_new w (.cells #[.int .i64 method,.slice Ab brs.length cb,.int .i64 al,.int .i64 cr,.int .i64 unit,.int .i64 mode,.slice Ar rows.length cr'] 41)
 have hm3:method = 1 ∨ method = 2 ∨ method = 3:=by omega
 go_enter Tryz.func155,Tryz.ntmps155
 go_upto_region 1 with fail
 generalize w.alloc (Obj.cells _ _) = W at hB hbel ⊢
 rcases hm3 with rfl | rfl | rfl
 ·
  have z0:=hB.cell 0
  have z1:=hB.cell 1
  have z2:=hB.cell 2
  have z3:=hB.cell 3
  have z4:=hB.cell 4
  have z5:=hB.cell 5
  have z6:=hB.cell 6
  simp only [nqg,nqh,nqi] at z0 z1 z2 z3 z4 z5 z6
  go_wp2_with fail
  refine (tableP30 Ar cr' rows W (hr.adv hbel) (HRW.out trivial)).mono ?_
  rintro e w1 ⟨rfl,hb1⟩
  have hB1:=hB.adv hb1
  have hbel1:=bel_adv hbel hb1
  clear hB hbel hb1 z0 z1 z2 z3 z4 z5 z6
  have z0:=hB1.cell 0
  have z1:=hB1.cell 1
  have z2:=hB1.cell 2
  have z3:=hB1.cell 3
  have z4:=hB1.cell 4
  have z5:=hB1.cell 5
  have z6:=hB1.cell 6
  simp only [nqg,nqh,nqi] at z0 z1 z2 z3 z4 z5 z6
  go_wp2_with fail
  refine (validP29 Ab cb brs _ (hb.adv hbel1) HBR.out).mono ?_
  rintro e w2 ⟨rfl,hb2⟩
  have hB2:=hB1.adv hb2
  have hbel2:=bel_adv hbel1 hb2
  clear hB1 hbel1 hb2 z0 z1 z2 z3 z4 z5 z6
  have z0:=hB2.cell 0
  have z1:=hB2.cell 1
  have z2:=hB2.cell 2
  have z3:=hB2.cell 3
  have z4:=hB2.cell 4
  have z5:=hB2.cell 5
  have z6:=hB2.cell 6
  simp only [nqg,nqh,nqi] at z0 z1 z2 z3 z4 z5 z6
  go_wp2_with fail
  refine (amtP30 _ _ a0 a1).mono ?_
  rintro e w' ⟨rfl,rfl⟩
  go_wp2_with fail
  refine (amtP30 _ _ c0 c1).mono ?_
  rintro e w' ⟨rfl,rfl⟩
  go_wp2
  go_ret
  exact ⟨rfl,hbel2⟩
 all_goals
  have hr0:=HNO.out (by omega)
  subst hr0
  have hB1:=hB
  have hbel1:=hbel
  clear hB hbel
  simp only [List.length_nil] at hB1
  have z0:=hB1.cell 0
  have z1:=hB1.cell 1
  have z2:=hB1.cell 2
  have z3:=hB1.cell 3
  have z4:=hB1.cell 4
  have z5:=hB1.cell 5
  have z6:=hB1.cell 6
  simp only [nqg,nqh,nqi] at z0 z1 z2 z3 z4 z5 z6
  go_wp2_with fail
  refine (validP29 Ab cb brs _ (hb.adv hbel1) HBR.out).mono ?_
  rintro e w2 ⟨rfl,hb2⟩
  have hB2:=hB1.adv hb2
  have hbel2:=bel_adv hbel1 hb2
  clear hB1 hbel1 hb2 z0 z1 z2 z3 z4 z5 z6
  have z0:=hB2.cell 0
  have z1:=hB2.cell 1
  have z2:=hB2.cell 2
  have z3:=hB2.cell 3
  have z4:=hB2.cell 4
  have z5:=hB2.cell 5
  have z6:=hB2.cell 6
  simp only [nqg,nqh,nqi] at z0 z1 z2 z3 z4 z5 z6
  go_wp2_with fail
  refine (amtP30 _ _ a0 a1).mono ?_
  rintro e w' ⟨rfl,rfl⟩
  go_wp2_with fail
  refine (amtP30 _ _ c0 c1).mono ?_
  rintro e w' ⟨rfl,rfl⟩
  go_wp2
  go_ret
  exact ⟨rfl,hbel2⟩
set_option maxRecDepth 100000 in
set_option maxHeartbeats 2000000 in
theorem taxOfP (t:TarT) (me:Int) (A Ar : Option Addr) (cap lr cr' : Nat) (l:List BrT) (al cr inc : Int) (w:World) (h:SliceOf encBr 2 w w.heap.size A l) (hB:BrOk l) (hT:TarOk t) (a0:0≤al) (a1:al≤1000000000) (c0:0≤cr) (c1:cr≤1000000000) (i0:0≤inc) (i1:inc≤1000000000000) :
  Calls Tryz.prog 205 #[.agg #[.int .i64 me,.slice A l.length cap,.int .i64 al,.int .i64 cr,.int .i64 t.unit,.int .i64 t.mode,.slice Ar lr cr'],.int .i64 inc] w fun e w'=>e = .returned (.tuple #[.int .i64 (tax30N t l al cr inc),.int .i64 0])∧Below w.heap.size w w':=by
 have HN:Hid (tax30N t l al cr inc = max (taxN l (max (inc - al) 0) t.unit t.mode - cr) 0):=rfl
 obtain ⟨t0,t1⟩:=taxN_bd (mode:=t.mode) (inc:=max (inc - al) 0) (unit:=t.unit) hB (by omega) hT.u0
 have u0:=hT.u0
 have u1:=hT.u1
 have mo0:=hT.mo0
 have mo1:=hT.mo1
 clear hT
 have hB1:=Blk.new w 41 #[.int .i64 me,.slice A l.length cap,.int .i64 al,.int .i64 cr,.int .i64 t.unit,.int .i64 t.mode,.slice Ar lr cr']
 have hbel:=below_new w (.cells #[.int .i64 me,.slice A l.length cap,.int .i64 al,.int .i64 cr,.int .i64 t.unit,.int .i64 t.mode,.slice Ar lr cr'] 41)
 rcases (show max (inc - al) 0 = inc - al∧0≤inc - al ∨ max (inc - al) 0 = 0∧inc - al < 0 by omega) with ⟨hm,hc⟩ | ⟨hm,hc⟩
 all_goals
  rw [hm] at HN t0 t1
  have HM:=Lib.hid hm
  clear hm
  go_enter Tryz.func205,Tryz.ntmps205
  go_upto_region 1 with fail
  generalize w.alloc (Obj.cells _ _) = W at hB1 hbel ⊢
  have z0:=hB1.cell 0
  have z1:=hB1.cell 1
  have z2:=hB1.cell 2
  have z3:=hB1.cell 3
  have z4:=hB1.cell 4
  have z5:=hB1.cell 5
  have z6:=hB1.cell 6
  simp only [nqg,nqh,nqi] at z0 z1 z2 z3 z4 z5 z6
  go_wp2_with fail
  try rw [HM.out]
  refine (taxP29 A cap l _ _ _ W (h.adv hbel) hB (by omega) (by omega) u0 (by omega) mo0 mo1).mono ?_
  rintro e w1 ⟨rfl,hb1⟩
  have hB2:=hB1.adv hb1
  clear hB1 z0 z1 z2 z3 z4 z5 z6
  have z0:=hB2.cell 0
  have z1:=hB2.cell 1
  have z2:=hB2.cell 2
  have z3:=hB2.cell 3
  have z4:=hB2.cell 4
  have z5:=hB2.cell 5
  have z6:=hB2.cell 6
  simp only [nqg,nqh,nqi] at z0 z1 z2 z3 z4 z5 z6
  generalize taxN l _ t.unit t.mode = tn at *
  go_wp2
  all_goals
   go_ret2
   exact ⟨by rw [HN.out]; first | rfl | (refine congrArg (fun n:Int=>Ending.returned (.tuple #[.int .i64 n,.int .i64 0])) ?_; omega),bel_adv hbel hb1⟩
set_option maxRecDepth 100000 in
set_option maxHeartbeats 2000000 in
theorem lookupP30 (A:Option Addr) (cap:Nat) (t:List RowT) (inc:Int) (w:World) (h:SliceOf encRw 2 w w.heap.size A t) (hB:RowsOk t) (i0:0≤inc) (i1:inc≤1000000000) :
  Calls Tryz.prog 166 #[.slice A t.length cap,.int .i64 inc] w fun e w'=>e = .returned (.tuple #[.int .i64 (lookN t inc),.int .i64 0])∧Below w.heap.size w w':=by
 have hl:=hB.len
 have HC:=Lib.hid (tableP30 A cap t w h hB)
 go_enter Tryz.func166,Tryz.ntmps166
 go_wp2_with fail
 refine Calls.mono HC.out ?_
 rintro e w1 ⟨rfl,hb1⟩
 have hS1:=h.adv hb1
 clear HC h
 go_wp2_with fail
 refine (amtP30 _ _ i0 i1).mono ?_
 rintro e w' ⟨rfl,rfl⟩
 go_wp2
 go_loopw [6,17] (fun n i wr=>∃ k:Nat,k≤t.length∧i = .int .i64 k∧n = .int .i64 (lookTo t inc k)∧Below w1.heap.size w1 wr) (fun _ i _=>t.length - (intOf i).toNat)
 case atStart=>exact ⟨0,by omega,rfl,rfl,Below.refl _ _⟩
 case round =>
  obtain ⟨k,hk,rfl,rfl,hbel⟩:=hrel
  have hbs:=hbel.size
  by_cases hlt:k < t.length
  ·
   obtain ⟨b,off,rfl,hb,hc⟩:=(hS1.adv hbel).at_ hlt
   have c0:=hc 0 _ rfl
   have c1:=hc 1 _ rfl
   simp only [Nat.add_zero] at c0
   have HT:Hid (lookTo t inc (k+1) = if (t.getD k zRw).frm≤inc then (t.getD k zRw).tax else lookTo t inc k):=rfl
   rw [rwD hlt] at HT
   clear hc
   by_cases hf:t[k].frm≤inc
   ·
    go_wp2
    go_roundw
    case rel=>exact ⟨k+1,by omega,by go_num,by rw [HT.out,if_pos hf],hbel.alloc hbs _⟩
    case measure=>simp [intOf]; omega
   ·
    go_wp2
    go_roundw
    case rel =>
     have hfin:∃ k':Nat,k'≤t.length∧Value.int .i64 ((k:Int)+1) = .int .i64 k'∧Value.int .i64 (lookTo t inc k) = .int .i64 (lookTo t inc k')∧Below w1.heap.size w1 (wr.alloc (.cells #[.int .i64 t[k].frm,.int .i64 t[k].tax] 93)):=⟨k+1,by omega,by go_num,by rw [HT.out,if_neg (by omega)],hbel.alloc hbs _⟩
     first | exact hfin | ((repeat apply Exists.intro); exact ⟨hfin,rfl⟩)
    case measure=>simp [intOf]; omega
  ·
   obtain rfl:k = t.length:=by omega
   have HE:Hid (lookN t inc = lookTo t inc t.length):=rfl
   go_wp2
   go_ret2
   exact ⟨by rw [HE.out]; rfl,bel_adv hb1 hbel⟩
set_option maxRecDepth 100000 in
set_option maxHeartbeats 2000000 in
theorem formulaP30 (m:TarM) (inc count : Int) (w:World) (h:m.In w) (hT:TarOk m.t) (i0:0≤inc) (i1:inc≤1000000000) (n0:1≤count) (n1:count≤53) :
  Calls Tryz.prog 167 #[.agg #[.int .i64 m.t.method,.slice m.Ab m.t.brs.length m.cb,.int .i64 m.t.allowance,.int .i64 m.t.credit,.int .i64 m.t.unit,.int .i64 m.t.mode,.slice m.Ar m.t.rows.length m.cr],.int .i64 inc,.int .i64 count] w fun e w'=>e = .returned (.tuple #[.int .i64 (formulaN m.t inc count),.int .i64 0])∧Below w.heap.size w w':=by
 obtain ⟨⟨p0,p1⟩,⟨t0,t1⟩,e1,f0,f1⟩:=formula_sizes hT i0 i1 n0 n1
 have hd0:(count == 0) = false:=by rw [beq_eq_false_iff_ne]; omega
 have hB1:=Blk.new w 41 #[.int .i64 m.t.method,.slice m.Ab m.t.brs.length m.cb,.int .i64 m.t.allowance,.int .i64 m.t.credit,.int .i64 m.t.unit,.int .i64 m.t.mode,.slice m.Ar m.t.rows.length m.cr]
 have hbel:=below_new w (.cells #[.int .i64 m.t.method,.slice m.Ab m.t.brs.length m.cb,.int .i64 m.t.allowance,.int .i64 m.t.credit,.int .i64 m.t.unit,.int .i64 m.t.mode,.slice m.Ar m.t.rows.length m.cr] 41)
 have HT:=Lib.hid hT
 clear hT
 go_enter Tryz.func167,Tryz.ntmps167
 go_upto_region 1 with fail
 generalize w.alloc (Obj.cells _ _) = W at hB1 hbel ⊢
 have z0:=hB1.cell 0
 have z1:=hB1.cell 1
 have z2:=hB1.cell 2
 have z3:=hB1.cell 3
 have z4:=hB1.cell 4
 have z5:=hB1.cell 5
 have z6:=hB1.cell 6
 simp only [nqg,nqh,nqi] at z0 z1 z2 z3 z4 z5 z6
 go_wp2_with fail
 refine (validP30 m W (h.adv hbel) HT.out).mono ?_
 rintro e w1 ⟨rfl,hb1⟩
 have hB2:=hB1.adv hb1
 have hbel1:=bel_adv hbel hb1
 clear hB1 hb1 z0 z1 z2 z3 z4 z5 z6
 have z0:=hB2.cell 0
 have z1:=hB2.cell 1
 have z2:=hB2.cell 2
 have z3:=hB2.cell 3
 have z4:=hB2.cell 4
 have z5:=hB2.cell 5
 have z6:=hB2.cell 6
 simp only [nqg,nqh,nqi] at z0 z1 z2 z3 z4 z5 z6
 go_wp2_with fail
 refine (amtP30 _ _ i0 i1).mono ?_
 rintro e w' ⟨rfl,rfl⟩
 go_wp2_with fail
 refine (taxOfP m.t m.t.method m.Ab m.Ar m.cb m.t.rows.length m.cr m.t.brs m.t.allowance m.t.credit (inc * count) w1 (h.brs.adv hbel1) HT.out.brs HT.out HT.out.a0 HT.out.a1 HT.out.c0 HT.out.c1 p0 (by omega)).mono ?_
 rintro e w2 ⟨rfl,hb2⟩
 generalize tax30N m.t m.t.brs m.t.allowance m.t.credit (inc * count) = tn at *
 generalize hfn:formulaN m.t inc count = fn at *
 have HFN:=Lib.hid hfn
 clear hfn
 go_wp2
 go_ret2
 exact ⟨by rw [HFN.out]; rfl,bel_adv hbel1 hb2⟩
end Go.Proofs.YtlhkojcmcmkmaaaGreat
namespace Go.Proofs.YtlhkojcmcmkmaaaGreat
open Go.RowKit
set_option maxRecDepth 100000 in
set_option maxHeartbeats 2000000 in
theorem dueP30 (m:TarM) (count k total : Int) (w:World) (h:m.In w) (hT:TarOk m.t) (n0:1≤count) (n1:count≤53) (k0:1≤k) (k1:k≤count) (i0:0≤total) (i1:total≤1000000000000) :
  Calls Tryz.prog 206 #[.agg #[.int .i64 m.t.method,.slice m.Ab m.t.brs.length m.cb,.int .i64 m.t.allowance,.int .i64 m.t.credit,.int .i64 m.t.unit,.int .i64 m.t.mode,.slice m.Ar m.t.rows.length m.cr],.int .i64 count,.int .i64 k,.int .i64 total] w fun e w'=>e = .returned (.tuple #[.int .i64 (dueN m.t count k total),.int .i64 0])∧Below w.heap.size w w':=by
 obtain ⟨⟨⟨p0,p1⟩,p2,p3⟩,⟨e1,e2⟩,⟨q0,q1⟩,q2,q3⟩:=due_sizes hT n0 n1 k0 k1
 have hd0:(count == 0) = false:=by rw [beq_eq_false_iff_ne]; omega
 have hB1:=Blk.new w 41 #[.int .i64 m.t.method,.slice m.Ab m.t.brs.length m.cb,.int .i64 m.t.allowance,.int .i64 m.t.credit,.int .i64 m.t.unit,.int .i64 m.t.mode,.slice m.Ar m.t.rows.length m.cr]
 have hbel:=below_new w (.cells #[.int .i64 m.t.method,.slice m.Ab m.t.brs.length m.cb,.int .i64 m.t.allowance,.int .i64 m.t.credit,.int .i64 m.t.unit,.int .i64 m.t.mode,.slice m.Ar m.t.rows.length m.cr] 41)
 have HD:Hid (dueN m.t count k total = tax30N m.t (scaleN m.t.brs k count) (m.t.allowance * k / count) (m.t.credit * k / count) total):=rfl
 have HT:=Lib.hid hT
 clear hT
 go_enter Tryz.func206,Tryz.ntmps206
 go_upto_region 1 with fail
 generalize w.alloc (Obj.cells _ _) = W at hB1 hbel ⊢
 have z0:=hB1.cell 0
 have z1:=hB1.cell 1
 have z2:=hB1.cell 2
 have z3:=hB1.cell 3
 have z4:=hB1.cell 4
 have z5:=hB1.cell 5
 have z6:=hB1.cell 6
 simp only [nqg,nqh,nqi] at z0 z1 z2 z3 z4 z5 z6
 go_wp2_with fail
 refine (validP30 m W (h.adv hbel) HT.out).mono ?_
 rintro e w1 ⟨rfl,hb1⟩
 have hB2:=hB1.adv hb1
 have hbel1:=bel_adv hbel hb1
 clear hB1 hb1 z0 z1 z2 z3 z4 z5 z6
 have z0:=hB2.cell 0
 have z1:=hB2.cell 1
 have z2:=hB2.cell 2
 have z3:=hB2.cell 3
 have z4:=hB2.cell 4
 have z5:=hB2.cell 5
 have z6:=hB2.cell 6
 simp only [nqg,nqh,nqi] at z0 z1 z2 z3 z4 z5 z6
 go_wp2_with fail
 refine (scaleP29 m.Ab m.cb m.t.brs k count w1 (h.brs.adv hbel1) HT.out.brs (by omega) n0 k1 n1).mono ?_
 rintro e w2 ⟨v2,rfl,hown2,hb2⟩
 have hB3:=hB2.adv hb2
 have hbel2:=bel_adv hbel1 hb2
 have HBS:=Lib.hid (scaleN_ok (num:=k) (den:=count) HT.out.brs (by omega) n0 k1)
 obtain ⟨A2,c2,rfl,hS2,hA2,_,_⟩:=hown2.form2 encBr_len
 have hws1:=hbel1.size
 have hlt3:=hB3.lt
 have hlt2:=hB2.lt
 clear hB2 hb2 hown2 z0 z1 z2 z3 z4 z5 z6
 have z0:=hB3.cell 0
 have z1:=hB3.cell 1
 have z2:=hB3.cell 2
 have z3:=hB3.cell 3
 have z4:=hB3.cell 4
 have z5:=hB3.cell 5
 have z6:=hB3.cell 6
 simp only [nqg,nqh,nqi] at z0 z1 z2 z3 z4 z5 z6
 have f1:=hB3.frozen 1
 have f2:=hB3.frozen 2
 have f3:=hB3.frozen 3
 generalize hqa:m.t.allowance * k / count = qa at *
 generalize hqc:m.t.credit * k / count = qc at *
 clear hqa hqc
 go_upto_region 11 with fail
 have hS3:SliceOf encBr 2 (((w2.setCell ⟨w.heap.size,1,none⟩ (.slice A2 (scaleN m.t.brs k count).length c2)).setCell ⟨w.heap.size,2,none⟩ (.int .i64 qa)).setCell ⟨w.heap.size,3,none⟩ (.int .i64 qc)) _ A2 (scaleN m.t.brs k count):=hS2.advG (only_setCell (p:=⟨w.heap.size,3,none⟩) (only_setCell (p:=⟨w.heap.size,2,none⟩) (only_setCell (p:=⟨w.heap.size,1,none⟩) (only_refl _ _) (.inl rfl) _) (.inl rfl) _) (.inl rfl) _) (fun a ha=>by have:=hA2 a ha; show a.block ≠ w.heap.size; omega)
 have hB4:=((hB3.set_ 1 (.slice A2 (scaleN m.t.brs k count).length c2)).set_ 2 (.int .i64 qa)).set_ 3 (.int .i64 qc)
 have hbel4:=bel_set (bel_set (bel_set hbel2 (Nat.le_refl w.heap.size) 1 (.slice A2 (scaleN m.t.brs k count).length c2)) (Nat.le_refl w.heap.size) 2 (.int .i64 qa)) (Nat.le_refl w.heap.size) 3 (.int .i64 qc)
 generalize ((w2.setCell ⟨w.heap.size,1,none⟩ (.slice A2 (scaleN m.t.brs k count).length c2)).setCell ⟨w.heap.size,2,none⟩ (.int .i64 qa)).setCell ⟨w.heap.size,3,none⟩ (.int .i64 qc) = W4 at hS3 hB4 hbel4 ⊢
 simp only [List.setIfInBounds_toArray,List.set_cons_zero,List.set_cons_succ] at hB4
 clear hB3 hS2 z0 z1 z2 z3 z4 z5 z6
 have z0:=hB4.cell 0
 have z1:=hB4.cell 1
 have z2:=hB4.cell 2
 have z3:=hB4.cell 3
 have z4:=hB4.cell 4
 have z5:=hB4.cell 5
 have z6:=hB4.cell 6
 simp only [nqg,nqh,nqi] at z0 z1 z2 z3 z4 z5 z6
 go_wp2_with fail
 refine (taxOfP m.t m.t.method A2 m.Ar c2 m.t.rows.length m.cr (scaleN m.t.brs k count) qa qc total W4 hS3 HBS.out HT.out q0 q1 q2 q3 i0 i1).mono ?_
 rintro e w5 ⟨rfl,hb5⟩
 rw [← HD.out]
 go_wp2
 go_ret2
 exact ⟨rfl,bel_adv hbel4 hb5⟩
set_option maxRecDepth 100000 in
set_option maxHeartbeats 2000000 in
theorem cumulativeP30 (m:TarM) (count k total wh : Int) (w:World) (h:m.In w) (hT:TarOk m.t) (n0:1≤count) (n1:count≤53) (k0:1≤k) (k1:k≤count) (i0:0≤total) (i1:total≤1000000000000) (w0 : -1000000000000≤wh) (w1' : wh≤1000000000000) :
  Calls Tryz.prog 168 #[.agg #[.int .i64 m.t.method,.slice m.Ab m.t.brs.length m.cb,.int .i64 m.t.allowance,.int .i64 m.t.credit,.int .i64 m.t.unit,.int .i64 m.t.mode,.slice m.Ar m.t.rows.length m.cr],.int .i64 count,.int .i64 k,.int .i64 total,.int .i64 wh] w fun e w'=>e = .returned (.tuple #[.int .i64 (dueN m.t count k total - wh),.int .i64 0])∧Below w.heap.size w w':=by
 obtain ⟨d0,d1⟩:=due_bd hT n0 n1 k0 k1 i0 i1
 have HT:=Lib.hid hT
 clear hT
 have hB1:=Blk.new w 41 #[.int .i64 m.t.method,.slice m.Ab m.t.brs.length m.cb,.int .i64 m.t.allowance,.int .i64 m.t.credit,.int .i64 m.t.unit,.int .i64 m.t.mode,.slice m.Ar m.t.rows.length m.cr]
 have hbel:=below_new w (.cells #[.int .i64 m.t.method,.slice m.Ab m.t.brs.length m.cb,.int .i64 m.t.allowance,.int .i64 m.t.credit,.int .i64 m.t.unit,.int .i64 m.t.mode,.slice m.Ar m.t.rows.length m.cr] 41)
 go_enter Tryz.func168,Tryz.ntmps168
 go_upto_region 1 with fail
 generalize w.alloc (Obj.cells _ _) = W at hB1 hbel ⊢
 have z0:=hB1.cell 0
 have z1:=hB1.cell 1
 have z2:=hB1.cell 2
 have z3:=hB1.cell 3
 have z4:=hB1.cell 4
 have z5:=hB1.cell 5
 have z6:=hB1.cell 6
 simp only [nqg,nqh,nqi] at z0 z1 z2 z3 z4 z5 z6
 go_wp2_with fail
 refine (dueP30 m count k total W (h.adv hbel) HT.out n0 n1 k0 k1 i0 i1).mono ?_
 rintro e w1 ⟨rfl,hb1⟩
 generalize hdn:dueN m.t count k total = dn at *
 have HDN:=Lib.hid hdn
 clear hdn
 go_wp2_with fail
 refine (whP30 _ _ w0 w1').mono ?_
 rintro e w' ⟨rfl,rfl⟩
 go_wp2
 go_ret2
 exact ⟨by rw [HDN.out]; rfl,bel_adv hbel hb1⟩
set_option maxRecDepth 100000 in
set_option maxHeartbeats 4000000 in
theorem withholdP30 (m:TarM) (count periods yinc withheld inc : Int) (Ai At : Option Addr) (li ci lt ct : Nat) (w:World) (h:m.In w) (hT:TarOk m.t) (n0:1≤count) (n1:count≤53) (p0:0≤periods) (p1:periods < count) (i0:0≤inc) (i1:inc≤1000000000) (y0:0≤yinc) (y1:yinc≤999000000000) (w0 : -1000000000000≤withheld) (w1' : withheld≤1000000000000) :
  Calls Tryz.prog 108 #[.agg #[.int .i64 m.t.method,.slice m.Ab m.t.brs.length m.cb,.int .i64 m.t.allowance,.int .i64 m.t.credit,.int .i64 m.t.unit,.int .i64 m.t.mode,.slice m.Ar m.t.rows.length m.cr],.int .i64 count,.agg #[.int .i64 periods,.int .i64 yinc,.int .i64 withheld,.slice Ai li ci,.slice At lt ct],.int .i64 inc] w fun e w'=>e = .returned (.tuple #[.int .i64 (withN m.t count periods yinc withheld inc),.int .i64 0])∧Below w.heap.size w w':=by
 have hB1:=(Blk.new w 41 #[.int .i64 m.t.method,.slice m.Ab m.t.brs.length m.cb,.int .i64 m.t.allowance,.int .i64 m.t.credit,.int .i64 m.t.unit,.int .i64 m.t.mode,.slice m.Ar m.t.rows.length m.cr]).alloc (.cells #[.int .i64 periods,.int .i64 yinc,.int .i64 withheld,.slice Ai li ci,.slice At lt ct] 53)
 have hY1:=Blk.new (w.alloc (.cells #[.int .i64 m.t.method,.slice m.Ab m.t.brs.length m.cb,.int .i64 m.t.allowance,.int .i64 m.t.credit,.int .i64 m.t.unit,.int .i64 m.t.mode,.slice m.Ar m.t.rows.length m.cr] 41)) 53 #[.int .i64 periods,.int .i64 yinc,.int .i64 withheld,.slice Ai li ci,.slice At lt ct]
 have hbel:=bel_alloc (below_new w (.cells #[.int .i64 m.t.method,.slice m.Ab m.t.brs.length m.cb,.int .i64 m.t.allowance,.int .i64 m.t.credit,.int .i64 m.t.unit,.int .i64 m.t.mode,.slice m.Ar m.t.rows.length m.cr] 41)) (.cells #[.int .i64 periods,.int .i64 yinc,.int .i64 withheld,.slice Ai li ci,.slice At lt ct] 53)
 rw [World.size_alloc] at hY1
 have HT:=Lib.hid hT
 have HW:Hid (withN m.t count periods yinc withheld inc = if m.t.method = 1 then lookN m.t.rows inc else if m.t.method = 2 then formulaN m.t inc count else dueN m.t count (periods+1) (yinc+inc) - withheld):=rfl
 have hme0:=hT.m0
 have hme1:=hT.m1
 clear hT
 go_enter Tryz.func108,Tryz.ntmps108
 go_upto_region 1 with fail
 generalize (w.alloc (Obj.cells #[.int .i64 m.t.method,.slice m.Ab m.t.brs.length m.cb,.int .i64 m.t.allowance,.int .i64 m.t.credit,.int .i64 m.t.unit,.int .i64 m.t.mode,.slice m.Ar m.t.rows.length m.cr] 41)).alloc (Obj.cells #[.int .i64 periods,.int .i64 yinc,.int .i64 withheld,.slice Ai li ci,.slice At lt ct] 53) = W at hB1 hY1 hbel ⊢
 have z0:=hB1.cell 0
 have z1:=hB1.cell 1
 have z2:=hB1.cell 2
 have z3:=hB1.cell 3
 have z4:=hB1.cell 4
 have z5:=hB1.cell 5
 have z6:=hB1.cell 6
 simp only [nqg,nqh,nqi] at z0 z1 z2 z3 z4 z5 z6
 go_wp2_with fail
 refine (validP30 m W (h.adv hbel) HT.out).mono ?_
 rintro e w1 ⟨rfl,hb1⟩
 have hB2:=hB1.adv hb1
 have hY2:=hY1.adv hb1
 have hbel1:=bel_adv hbel hb1
 clear hB1 hY1 hb1 z0 z1 z2 z3 z4 z5 z6
 have z0:=hB2.cell 0
 have z1:=hB2.cell 1
 have z2:=hB2.cell 2
 have z3:=hB2.cell 3
 have z4:=hB2.cell 4
 have z5:=hB2.cell 5
 have z6:=hB2.cell 6
 simp only [nqg,nqh,nqi] at z0 z1 z2 z3 z4 z5 z6
 have y0:=hY2.cell 0
 have y1:=hY2.cell 1
 have y2:=hY2.cell 2
 have y3:=hY2.cell 3
 have y4:=hY2.cell 4
 simp only [nqg,nqh,nqi] at y0 y1 y2 y3 y4
 go_wp2_with fail
 refine (amtP30 _ _ i0 i1).mono ?_
 rintro e w' ⟨rfl,rfl⟩
 go_wp2_with fail
 refine (whP30 _ _ w0 w1').mono ?_
 rintro e w' ⟨rfl,rfl⟩
 have hmc:m.t.method = 1 ∨ m.t.method = 2 ∨ m.t.method = 3:=by omega
 rcases hmc with hm | hm | hm
 ·
  have HR:=Lib.hid (HT.out.rows hm)
  have HW2:Hid (withN m.t count periods yinc withheld inc = lookN m.t.rows inc):=by rw [Hid,HW.out,if_pos hm]
  rw [hm] at z0
  clear HW hm
  go_wp2_with fail
  refine (lookupP30 m.Ar m.cr m.t.rows inc w1 (h.rows.adv hbel1) HR.out i0 i1).mono ?_
  rintro e w2 ⟨rfl,hb2⟩
  go_wp2
  go_ret2
  exact ⟨by rw [HW2.out]; rfl,bel_adv hbel1 hb2⟩
 ·
  have HW2:Hid (withN m.t count periods yinc withheld inc = formulaN m.t inc count):=by rw [Hid,HW.out,if_neg (by omega),if_pos hm]
  have HC:=Lib.hid (formulaP30 m inc count w1 (h.adv hbel1) HT.out i0 i1 n0 n1)
  rw [hm] at z0 HC
  clear HW hm
  go_wp2_with fail
  refine Calls.mono HC.out ?_
  rintro e w2 ⟨rfl,hb2⟩
  go_wp2
  go_ret2
  exact ⟨by rw [HW2.out]; rfl,bel_adv hbel1 hb2⟩
 ·
  have HW2:Hid (withN m.t count periods yinc withheld inc = dueN m.t count (periods+1) (yinc+inc) - withheld):=by rw [Hid,HW.out,if_neg (by omega),if_neg (by omega)]
  have HC:=Lib.hid (cumulativeP30 m count (periods+1) (yinc+inc) withheld w1 (h.adv hbel1) HT.out n0 n1 (by omega) (by omega) (by omega) (by omega) w0 w1')
  rw [hm] at z0 HC
  clear HW hm
  go_wp2_with fail
  refine Calls.mono HC.out ?_
  rintro e w2 ⟨rfl,hb2⟩
  go_wp2
  go_ret2
  exact ⟨by rw [HW2.out]; rfl,bel_adv hbel1 hb2⟩
end Go.Proofs.YtlhkojcmcmkmaaaGreat
namespace Go.Proofs.YtlhkojcmcmkmaaaGreat
open Go.RowKit
set_option maxRecDepth 100000 in
set_option maxHeartbeats 4000000 in
theorem withholdMP32 {w0:World} {g:Nat} {c:CalF} {s:CalS} {ls:List LineT} {w:World} (h:CalI w0 g c s ls w) (hr:c.r.In w0) (B:Option Addr) (bc:Nat) (bl:List Elem) (hbv:s.bv = .slice B bl.length bc) (hL:Lst encE 2 w g s.lv B bl)
  (hls:ls.length≤1000) (hbl:bl.length≤128) (hx:∀ x ∈ bl,0≤x.amount∧x.amount≤1000000000) (hT:TarOk c.r.tm.t) (n0:1≤c.r.count) (n1:c.r.count≤53) (p0:0≤c.y.periods) (p1:c.y.periods < c.r.count)
  (y0:0≤c.y.income) (y1:c.y.income≤999000000000) (u0 : -1000000000000≤c.y.withheld) (u1:c.y.withheld≤1000000000000) (t0 : -1000000000≤s.b.t) (t1:s.b.t≤1000000000) (r0:0≤s.relief) (r1:s.relief≤12000000000)
  (l0 : -100000000000≤s.left) (l1:s.left≤100000000000) (inc tax:Int) (hinc:inc = max (s.b.t - s.relief - sumE bl) 0) (htax:tax = withN c.r.tm.t c.r.count c.y.periods c.y.income c.y.withheld inc) :
  Calls Tryz.prog 55 #[.pointer (some ⟨g,0,none⟩)] w fun e w'=>Below w0.heap.size w0 w'∧((amtB tax = false∧e = .returned (.int .i64 4)) ∨ (amtB tax = true∧e = .returned (.int .i64 0) ∧
   ∃ v',CalI w0 g c { s with income:=inc,tax:=tax,lv:=v',left:=s.left - tax } (ls++linesK 6 [⟨⟨#[]⟩,tax⟩]) w'∧Mv g s.lv w v' w')):=by
 have HX:=Lib.hid hx
 have HSB:Hid (∀ k,k≤bl.length→0≤sumE (bl.take k)∧sumE (bl.take k)≤128000000000):=fun k hk=>by
  have:=sumE_bd (bl.take k) 1000000000 (fun x hx=>HX.out x (List.mem_of_mem_take hx))
  rw [List.length_take] at this
  omega
 have HI:=Lib.hid h
 have HL:=Lib.hid hL
 have HWH:Hid (0≤inc→inc≤1000000000→∀ W,Below w0.heap.size w0 W→Calls Tryz.prog 108 #[.agg #[.int .i64 c.r.tm.t.method,.slice c.r.tm.Ab c.r.tm.t.brs.length c.r.tm.cb,.int .i64 c.r.tm.t.allowance,.int .i64 c.r.tm.t.credit,.int .i64 c.r.tm.t.unit,.int .i64 c.r.tm.t.mode,.slice c.r.tm.Ar c.r.tm.t.rows.length c.r.tm.cr],.int .i64 c.r.count,.agg #[.int .i64 c.y.periods,.int .i64 c.y.income,.int .i64 c.y.withheld,.slice c.y.Ai c.y.ins.length c.y.ci,.slice c.y.At c.y.taken.length c.y.ct],.int .i64 inc] W fun e w'=>e = .returned (.tuple #[.int .i64 tax,.int .i64 0])∧Below W.heap.size W w'):=fun i0 i1 W hb=>by
  rw [htax]
  exact withholdP30 c.r.tm c.r.count c.y.periods c.y.income c.y.withheld inc c.y.Ai c.y.At c.y.ins.length c.y.ci c.y.taken.length c.y.ct W (hr.adv hb).tm hT n0 n1 p0 p1 i0 i1 y0 y1 u0 u1
 have zz29:w.cell? ⟨g,29,none⟩ = some (.int .i64 s.b.t):=h.blk.cell 29
 have zz34:w.cell? ⟨g,34,none⟩ = some (.slice B bl.length bc):=by have:w.cell? ⟨g,34,none⟩ = some s.bv:=h.blk.cell 34; rw [this,hbv]
 have zz39:w.cell? ⟨g,39,none⟩ = some (.int .i64 s.relief):=h.blk.cell 39
 have hlt:=h.lt
 have HINC:=Lib.hid hinc
 clear h hr hL hx hT hbv htax hinc y0 y1 u0 u1 n0 n1 p0 p1
 go_enter Tryz.func55,Tryz.ntmps55
 have e29:=Bw.cell (w:=w) (a:=⟨g,29,none⟩) (by exact hlt) zz29
 have e39:=Bw.cell (w:=w) (a:=⟨g,39,none⟩) (by exact hlt) zz39
 go_upto_region 1 with fail
 refine wp_region_below (by kernel_rfl) (by kernel_rfl) ?_
 repeat (go_big_quiet_step (fail))
 refine wpQuiet_nil ?_
 intro W2 hw'
 obtain ⟨⟨W9,hW2⟩,hw''⟩:=hw'
 subst hw''
 have z34:=(hW2.cell (p:=⟨g,34,none⟩) (by exact hlt)).trans zz34
 clear zz29 zz34 zz39 e29 e39
 go_wp2_with fail
 go_loopw [3,23] (fun ic i wr=>∃ k:Nat,k≤bl.length∧i = .int .i64 k∧ic = .int .i64 (s.b.t - s.relief - sumE (bl.take k))∧Below w.heap.size w wr) (fun _ i _=>bl.length - (intOf i).toNat)
 case atStart=>exact ⟨0,by omega,rfl,by simp [sumE],hW2⟩
 case round =>
  rename World=>wr
  clear z34
  obtain ⟨k,hk,rfl,rfl,hbr⟩:=hrel
  by_cases hlt2:k < bl.length
  ·
   obtain ⟨b,off,hAe,hbb,hc⟩:=(HL.out.sl.adv hbr).at_ hlt2
   have c0:=hc 0 _ rfl
   have c1:=hc 1 _ rfl
   simp only [Nat.add_zero] at c0
   rw [hAe]
   have HS:Hid (sumE (bl.take (k+1)) = sumE (bl.take k)+bl[k].amount):=sumE_take bl k hlt2
   have hki:(k:Int) < (bl.length:Int):=by omega
   obtain ⟨x0,x1⟩:=HX.out _ (List.getElem_mem hlt2)
   obtain ⟨s0,s1⟩:=HSB.out k (by omega)
   have hbn:=below_new wr (.cells #[.string bl[k].code,.int .i64 bl[k].amount] 69)
   clear hc
   generalize bl[k] = x at *
   generalize sumE (bl.take k) = q at *
   have hb1:=bel_adv hbr hbn
   go_wp2
   go_roundw
   case rel =>
    have hfin:∃ k':Nat,k'≤bl.length∧Value.int .i64 ((k:Int)+1) = .int .i64 k'∧Value.int .i64 (s.b.t - s.relief - q - x.amount) = .int .i64 (s.b.t - s.relief - sumE (bl.take k'))∧Below w.heap.size w (wr.alloc (.cells #[.string x.code,.int .i64 x.amount] 69)):=⟨k+1,by omega,by go_num,by rw [HS.out,← Int.sub_sub],hb1⟩
    first | exact hfin | ((repeat apply Exists.intro); exact ⟨hfin,rfl⟩)
   case measure=>simp [intOf]; omega
  ·
   obtain rfl:k = bl.length:=by omega
   have hI:=HI.out.adv hbr
   have hm:=Mv.bel (g:=g) (v:=s.lv) hbr
   obtain ⟨s0,s1⟩:=HSB.out bl.length (Nat.le_refl _)
   rw [List.take_length] at s0 s1 ⊢
   have i0:0≤inc:=by have:=HINC.out; omega
   have i1:inc≤1000000000:=by have:=HINC.out; omega
   have HW2:=Lib.hid (HWH.out i0 i1)
   have z40:wr.cell? ⟨g,40,none⟩ = some (.int .i64 s.income):=hI.blk.cell 40
   have f40:=hI.blk.frozen 40
   clear HWH HL HX HSB hbr
   go_upto_region 8 with fail
   first | rw [show (if s.b.t - s.relief - sumE bl < 0 then 0 else s.b.t - s.relief - sumE bl) = inc by rw [HINC.out]; split <;> omega] | rw [show max (s.b.t - s.relief - sumE bl) 0 = inc from HINC.out.symm]
   have hI2:=hI.putIncome inc
   have hm2:=hm.trans (Mv.set 40 (.int .i64 inc))
   generalize wr.setCell ⟨g,40,none⟩ (.int .i64 inc) = W8 at hI2 hm2 ⊢
   clear hI hm z40 f40 HI HINC
   have hl8:=hI2.lt
   have hq:∀ i v,(calC c { s with income:=inc })[i]? = some v→∀ p:Bw W8,p.w'.cell? ⟨g,i,none⟩ = some v:=fun i v hv p=>Bw.cell (w:=W8) (a:=⟨g,i,none⟩) (by exact hl8) ((hI2.blk.cell i).trans hv) p
   have e2:=hq 2 (.int .i64 c.r.tm.t.method) rfl
   have e3:=hq 3 (.slice c.r.tm.Ab c.r.tm.t.brs.length c.r.tm.cb) rfl
   have e4:=hq 4 (.int .i64 c.r.tm.t.allowance) rfl
   have e5:=hq 5 (.int .i64 c.r.tm.t.credit) rfl
   have e6:=hq 6 (.int .i64 c.r.tm.t.unit) rfl
   have e7:=hq 7 (.int .i64 c.r.tm.t.mode) rfl
   have e8:=hq 8 (.slice c.r.tm.Ar c.r.tm.t.rows.length c.r.tm.cr) rfl
   have e9:=hq 9 (.int .i64 c.r.count) rfl
   have e20:=hq 20 (.int .i64 c.y.periods) rfl
   have e21:=hq 21 (.int .i64 c.y.income) rfl
   have e22:=hq 22 (.int .i64 c.y.withheld) rfl
   have e23:=hq 23 (.slice c.y.Ai c.y.ins.length c.y.ci) rfl
   have e24:=hq 24 (.slice c.y.At c.y.taken.length c.y.ct) rfl
   have e40:=hq 40 (.int .i64 inc) rfl
   clear hq
   refine wp_region_below (by kernel_rfl) (by kernel_rfl) ?_
   repeat (go_big_quiet_step (exact Bw.call _ (HW2.out _ (bel_adv hI2.bel (Bw.h _)))))
   refine wpQuiet_nil ?_
   intro W9 hw'
   obtain ⟨⟨W9,hW9⟩,hw''⟩:=hw'
   subst hw''
   have hI3:=hI2.adv hW9
   have hm3:=hm2.trans (Mv.bel hW9)
   clear e2 e3 e4 e5 e6 e7 e8 e9 e20 e21 e22 e23 e24 e40 hI2 hm2 HW2 hl8
   have hbel:=hI3.bel
   by_cases a0 : -1000000000≤tax
   rotate_left
   ·
    have HB:Hid (amtB tax = false):=by simp [Hid,amtB]; omega
    go_wp2
    go_ret
    exact ⟨hbel,.inl ⟨HB.out,rfl⟩⟩
   by_cases a1:tax≤1000000000
   rotate_left
   ·
    have HB:Hid (amtB tax = false):=by simp [Hid,amtB]; omega
    go_wp2
    go_ret
    exact ⟨hbel,.inl ⟨HB.out,rfl⟩⟩
   have HB:Hid (amtB tax = true):=by simp [Hid,amtB]; omega
   have z41:W9.cell? ⟨g,41,none⟩ = some (.int .i64 s.tax):=hI3.blk.cell 41
   have f41:=hI3.blk.frozen 41
   go_upto_region 14 with fail
   have hI4:=hI3.putTax tax
   have hm4:=hm3.trans (Mv.set 41 (.int .i64 tax))
   generalize W9.setCell ⟨g,41,none⟩ (.int .i64 tax) = W14 at hI4 hm4 ⊢
   clear hI3 hm3 z41 f41 hbel
   go_wp2_with fail
   refine (lineP32 hI4 6 ⟨#[]⟩ tax (by omega)).mono ?_
   rintro e w5 ⟨rfl,v5,hI5,hm5⟩
   have hm6:=hm4.trans hm5
   have z33:w5.cell? ⟨g,33,none⟩ = some (.int .i64 s.left):=hI5.blk.cell 33
   have f33:=hI5.blk.frozen 33
   clear hI4 hm4 hm5
   go_wp2
   go_ret
   have hI6:=hI5.putLeft (s.left - tax)
   have hm7:=hm6.trans (Mv.set 33 (.int .i64 (s.left - tax)))
   exact ⟨hI6.bel,.inr ⟨HB.out,rfl,v5,hI6,hm7⟩⟩
end Go.Proofs.YtlhkojcmcmkmaaaGreat
