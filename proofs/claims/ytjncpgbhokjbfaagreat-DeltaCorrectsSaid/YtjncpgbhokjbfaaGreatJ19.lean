/- Joined texts: R30b R30c NetL. Conditions: as stated. -/
import Derived.Test.YtjncpgbhokjbfaaGreatJ03
import Derived.Test.YtjncpgbhokjbfaaGreatJ11
import Derived.Test.YtjncpgbhokjbfaaGreatJ18
namespace Go.Proofs.YtjncpgbhokjbfaaGreat
open Go.RowKit
theorem ret_int' {a b : Int} (h:a = b) : Ending.returned (.int .i64 a) = .returned (.int .i64 b):=by rw [h]
set_option maxRecDepth 100000 in
set_option maxHeartbeats 2000000 in
theorem tax30_ok (m:TarM) (A:Option Addr) (cap:Nat) (l:List BrT) (al cr inc : Int) (w:World) (h:SliceOf encBr 2 w w.heap.size A l) (hB:BrOk l) (hT:TarOk m.t) (a0:0≤al) (a1:al≤1000000000) (c0:0≤cr) (c1:cr≤1000000000) (i0:0≤inc) (i1:inc≤1000000000000) :
  Calls Tryz.prog 148 #[m.val,.slice A l.length cap,.int .i64 al,.int .i64 cr,.int .i64 inc] w fun e w'=>e = .returned (.int .i64 (tax30N m.t l al cr inc))∧Below w.heap.size w w':=by
 have hN:tax30N m.t l al cr inc = max (taxN l (max (inc - al) 0) m.t.unit m.t.mode - cr) 0:=rfl
 have HN:=Lib.hid hN
 obtain ⟨t0,t1⟩:=taxN_bd (mode:=m.t.mode) (inc:=max (inc - al) 0) (unit:=m.t.unit) hB (by omega) hT.u0
 have u0:=hT.u0
 have u1:=hT.u1
 have mo0:=hT.mo0
 have mo1:=hT.mo1
 clear hN hT
 unfold TarM.val
 have hB1:=Blk.new w 69 #[.int .i64 m.t.method,.slice m.Ab m.t.brs.length m.cb,.int .i64 m.t.allowance,.int .i64 m.t.credit,.int .i64 m.t.unit,.int .i64 m.t.mode,.slice m.Ar m.t.rows.length m.cr]
 have hbel:=below_new w (.cells #[.int .i64 m.t.method,.slice m.Ab m.t.brs.length m.cb,.int .i64 m.t.allowance,.int .i64 m.t.credit,.int .i64 m.t.unit,.int .i64 m.t.mode,.slice m.Ar m.t.rows.length m.cr] 69)
 rcases (show max (inc - al) 0 = inc - al∧0≤inc - al ∨ max (inc - al) 0 = 0∧inc - al < 0 by omega) with ⟨hm,hc⟩ | ⟨hm,hc⟩
 all_goals
  rw [hm] at HN t0 t1
  clear hm
  go_enter Tryz.func148,Tryz.ntmps148
  go_upto_region 1 with fail
  generalize w.alloc (Obj.cells _ _) = W at hB1 hbel ⊢
  have z0:=hB1.cell 0
  have z1:=hB1.cell 1
  have z2:=hB1.cell 2
  have z3:=hB1.cell 3
  have z4:=hB1.cell 4
  have z5:=hB1.cell 5
  have z6:=hB1.cell 6
  simp only [nqg,nqh,nqi] at z0 z1 z2 z3 z4 z5 z6
  go_wp2_with fail
  refine (tax29_yes A cap l _ _ _ W (h.adv hbel) hB (by omega) (by omega) u0 (by omega) mo0 mo1).mono ?_
  rintro e w1 ⟨rfl,hb1⟩
  generalize taxN l _ m.t.unit m.t.mode = tn at *
  go_wp2
  all_goals
   go_ret
   exact ⟨ret_int' (by rw [HN.out]; omega),bel_adv hbel hb1⟩
set_option maxRecDepth 100000 in
set_option maxHeartbeats 2000000 in
theorem lookup30_ok (A:Option Addr) (cap:Nat) (t:List RowT) (inc:Int) (w:World) (h:SliceOf encRw 2 w w.heap.size A t) (hB:RowsOk t) (i0:0≤inc) (i1:inc≤1000000000) :
  Calls Tryz.prog 104 #[.slice A t.length cap,.int .i64 inc] w fun e w'=>e = .returned (.tuple #[.int .i64 (lookN t inc),.int .i64 0])∧∃ q,w' = w.drewN q:=by
 have hl:=hB.len
 have hin:inB inc 1000000000 = true:=inB_iff.2 ⟨i0,i1⟩
 have hcon:=table30_yes A cap t w _ h hB
 have HC:=Lib.hid hcon
 clear hcon
 go_enter Tryz.func104,Tryz.ntmps104
 go_wp2_with fail
 refine Calls.mono HC.out ?_
 rintro e w1 ⟨rfl,q,hw1⟩
 have hS1:SliceOf encRw 2 w1 w1.heap.size A t:=by rw [hw1]; exact h.advD q
 have HW1:=Lib.hid hw1
 clear hw1 HC h
 go_wp2_with fail
 refine (in30_any _ _ _).mono ?_
 rintro e w' ⟨rfl,rfl⟩
 rw [hin]
 go_wp2
 go_loop [6,7] (fun n i=>∃ k:Nat,k≤t.length∧i = .int .i64 k∧n = .int .i64 (lookTo t inc k)) (fun _ i=>t.length - (intOf i).toNat)
 case atStart=>exact ⟨0,by omega,rfl,rfl⟩
 case round =>
  obtain ⟨k,hk,rfl,rfl⟩:=hrel
  by_cases hlt:k < t.length
  ·
   obtain ⟨b,off,rfl,hb,hc⟩:=hS1.at_ hlt
   have c0:=hc 0 _ rfl
   have c1:=hc 1 _ rfl
   simp only [Nat.add_zero] at c0
   have HT:Hid (lookTo t inc (k+1) = if (t.getD k zRw).frm≤inc then (t.getD k zRw).tax else lookTo t inc k):=rfl
   rw [rwD hlt] at HT
   clear hc
   by_cases hf:t[k].frm≤inc
   ·
    go_wp2
    go_round
    case rel=>exact ⟨k+1,by omega,by go_num,by rw [HT.out,if_pos hf]⟩
    case measure=>simp [intOf]; omega
   ·
    go_wp2
    go_round
    case rel =>
     have hfin:∃ k':Nat,k'≤t.length∧Value.int .i64 ((k:Int)+1) = .int .i64 k'∧Value.int .i64 (lookTo t inc k) = .int .i64 (lookTo t inc k'):=⟨k+1,by omega,by go_num,by rw [HT.out,if_neg (by omega)]⟩
     first | exact hfin | ((repeat apply Exists.intro); exact ⟨hfin,rfl⟩)
    case measure=>simp [intOf]; omega
  ·
   obtain rfl:k = t.length:=by omega
   have HE:Hid (lookN t inc = lookTo t inc t.length):=rfl
   go_wp2
   go_ret2
   exact ⟨by rw [HE.out]; rfl,q,HW1.out⟩
theorem formula_sizes {t:TarT} {inc count : Int} (hT:TarOk t) (i0:0≤inc) (i1:inc≤1000000000) (n0:1≤count) (n1:count≤53) :
  (0≤inc * count∧inc * count≤53000000000)∧(0≤tax30N t t.brs t.allowance t.credit (inc * count)∧tax30N t t.brs t.allowance t.credit (inc * count)≤54000000000)∧(tax30N t t.brs t.allowance t.credit (inc * count)).tdiv count = formulaN t inc count∧(0≤formulaN t inc count∧formulaN t inc count≤54000000000):=by
 have p0:0≤inc * count:=Int.mul_nonneg i0 (by omega)
 have p1:inc * count≤1000000000 * 53:=Int.mul_le_mul i1 n1 (by omega) (by omega)
 obtain ⟨b0,b1⟩:=tax30_bd (t:=t) (al:=t.allowance) (cr:=t.credit) hT.brs hT.u0 hT.u1 hT.a0 hT.c0 p0
 refine ⟨by omega,by omega,Int.tdiv_eq_ediv_of_nonneg b0,Int.ediv_nonneg b0 (by omega),?_⟩
 refine Int.le_trans (Int.ediv_le_self _ b0) (by omega)
set_option maxRecDepth 100000 in
set_option maxHeartbeats 2000000 in
theorem formula30_ok (m:TarM) (inc count : Int) (w:World) (h:m.In w) (hT:TarOk m.t) (i0:0≤inc) (i1:inc≤1000000000) (n0:1≤count) (n1:count≤53) :
  Calls Tryz.prog 105 #[m.val,.int .i64 inc,.int .i64 count] w fun e w'=>e = .returned (.tuple #[.int .i64 (formulaN m.t inc count),.int .i64 0])∧Below w.heap.size w w':=by
 obtain ⟨⟨p0,p1⟩,⟨t0,t1⟩,e1,f0,f1⟩:=formula_sizes hT i0 i1 n0 n1
 have hin:inB inc 1000000000 = true:=inB_iff.2 ⟨i0,i1⟩
 have hd0:(count == 0) = false:=by rw [beq_eq_false_iff_ne]; omega
 have hB1:=Blk.new w 69 #[.int .i64 m.t.method,.slice m.Ab m.t.brs.length m.cb,.int .i64 m.t.allowance,.int .i64 m.t.credit,.int .i64 m.t.unit,.int .i64 m.t.mode,.slice m.Ar m.t.rows.length m.cr]
 have hbel:=below_new w (.cells #[.int .i64 m.t.method,.slice m.Ab m.t.brs.length m.cb,.int .i64 m.t.allowance,.int .i64 m.t.credit,.int .i64 m.t.unit,.int .i64 m.t.mode,.slice m.Ar m.t.rows.length m.cr] 69)
 have HT:=Lib.hid hT
 clear hT
 unfold TarM.val
 go_enter Tryz.func105,Tryz.ntmps105
 go_upto_region 1 with fail
 generalize w.alloc (Obj.cells _ _) = W at hB1 hbel ⊢
 have z0:=hB1.cell 0
 have z1:=hB1.cell 1
 have z2:=hB1.cell 2
 have z3:=hB1.cell 3
 have z4:=hB1.cell 4
 have z5:=hB1.cell 5
 have z6:=hB1.cell 6
 simp only [nqg,nqh,nqi] at z0 z1 z2 z3 z4 z5 z6
 go_wp2_with fail
 have hcon:=valid30_yes m W (h.adv hbel) HT.out
 unfold TarM.val at hcon
 refine hcon.mono ?_
 rintro e w1 ⟨rfl,hb1⟩
 have hB2:=hB1.adv hb1
 have hbel1:=bel_adv hbel hb1
 clear hcon hB1 hb1 z0 z1 z2 z3 z4 z5 z6
 have z0:=hB2.cell 0
 have z1:=hB2.cell 1
 have z2:=hB2.cell 2
 have z3:=hB2.cell 3
 have z4:=hB2.cell 4
 have z5:=hB2.cell 5
 have z6:=hB2.cell 6
 simp only [nqg,nqh,nqi] at z0 z1 z2 z3 z4 z5 z6
 go_wp2_with fail
 refine (in30_any _ _ _).mono ?_
 rintro e w' ⟨rfl,rfl⟩
 rw [hin]
 go_wp2_with fail
 have hcon:=tax30_ok m m.Ab m.cb m.t.brs m.t.allowance m.t.credit (inc * count) w1 (h.brs.adv hbel1) HT.out.brs HT.out HT.out.a0 HT.out.a1 HT.out.c0 HT.out.c1 p0 (by omega)
 unfold TarM.val at hcon
 refine hcon.mono ?_
 rintro e w2 ⟨rfl,hb2⟩
 clear hcon
 generalize tax30N m.t m.t.brs m.t.allowance m.t.credit (inc * count) = tn at *
 generalize hfn:formulaN m.t inc count = fn at *
 have HFN:=Lib.hid hfn
 clear hfn
 go_wp2
 go_ret2
 exact ⟨by rw [HFN.out]; rfl,bel_adv hbel1 hb2⟩
theorem due_sizes {t:TarT} {count k : Int} (hT:TarOk t) (n0:1≤count) (n1:count≤53) (k0:1≤k) (k1:k≤count) :
  ((0≤t.allowance * k∧t.allowance * k≤53000000000)∧(0≤t.credit * k∧t.credit * k≤53000000000))∧((t.allowance * k).tdiv count = t.allowance * k / count∧(t.credit * k).tdiv count = t.credit * k / count)∧(0≤t.allowance * k / count∧t.allowance * k / count≤1000000000)∧(0≤t.credit * k / count∧t.credit * k / count≤1000000000):=by
 have key:∀ x:Int,0≤x→x≤1000000000→(0≤x * k∧x * k≤53000000000)∧(x * k).tdiv count = x * k / count∧0≤x * k / count∧x * k / count≤1000000000:=fun x x0 x1=>by
  have p0:0≤x * k:=Int.mul_nonneg x0 (by omega)
  have p1:x * k≤1000000000 * 53:=Int.mul_le_mul x1 (by omega) (by omega) (by omega)
  refine ⟨by omega,Int.tdiv_eq_ediv_of_nonneg p0,Int.ediv_nonneg p0 (by omega),?_⟩
  refine Int.le_trans (Int.ediv_le_of_le_mul (by omega) ?_) x1
  exact Int.mul_le_mul_of_nonneg_left k1 x0
 obtain ⟨a,b,c⟩:=key t.allowance hT.a0 hT.a1
 obtain ⟨d,e,f⟩:=key t.credit hT.c0 hT.c1
 exact ⟨⟨a,d⟩,⟨b,e⟩,c,f⟩
set_option maxRecDepth 100000 in
set_option maxHeartbeats 2000000 in
theorem due30_ok (m:TarM) (count k total : Int) (w:World) (h:m.In w) (hT:TarOk m.t) (n0:1≤count) (n1:count≤53) (k0:1≤k) (k1:k≤count) (i0:0≤total) (i1:total≤1000000000000) :
  Calls Tryz.prog 149 #[m.val,.int .i64 count,.int .i64 k,.int .i64 total] w fun e w'=>e = .returned (.tuple #[.int .i64 (dueN m.t count k total),.int .i64 0])∧Below w.heap.size w w':=by
 obtain ⟨⟨⟨p0,p1⟩,p2,p3⟩,⟨e1,e2⟩,⟨q0,q1⟩,q2,q3⟩:=due_sizes hT n0 n1 k0 k1
 have hin:inB total 1000000000000 = true:=inB_iff.2 ⟨i0,i1⟩
 have hd0:(count == 0) = false:=by rw [beq_eq_false_iff_ne]; omega
 have hB1:=Blk.new w 69 #[.int .i64 m.t.method,.slice m.Ab m.t.brs.length m.cb,.int .i64 m.t.allowance,.int .i64 m.t.credit,.int .i64 m.t.unit,.int .i64 m.t.mode,.slice m.Ar m.t.rows.length m.cr]
 have hbel:=below_new w (.cells #[.int .i64 m.t.method,.slice m.Ab m.t.brs.length m.cb,.int .i64 m.t.allowance,.int .i64 m.t.credit,.int .i64 m.t.unit,.int .i64 m.t.mode,.slice m.Ar m.t.rows.length m.cr] 69)
 have HD:Hid (dueN m.t count k total = tax30N m.t (scaleN m.t.brs k count) (m.t.allowance * k / count) (m.t.credit * k / count) total):=rfl
 have HT:=Lib.hid hT
 clear hT
 unfold TarM.val
 go_enter Tryz.func149,Tryz.ntmps149
 go_upto_region 1 with fail
 generalize w.alloc (Obj.cells _ _) = W at hB1 hbel ⊢
 have z0:=hB1.cell 0
 have z1:=hB1.cell 1
 have z2:=hB1.cell 2
 have z3:=hB1.cell 3
 have z4:=hB1.cell 4
 have z5:=hB1.cell 5
 have z6:=hB1.cell 6
 simp only [nqg,nqh,nqi] at z0 z1 z2 z3 z4 z5 z6
 go_wp2_with fail
 have hcon:=valid30_yes m W (h.adv hbel) HT.out
 unfold TarM.val at hcon
 refine hcon.mono ?_
 rintro e w1 ⟨rfl,hb1⟩
 have hB2:=hB1.adv hb1
 have hbel1:=bel_adv hbel hb1
 clear hcon hB1 hb1 z0 z1 z2 z3 z4 z5 z6
 have z0:=hB2.cell 0
 have z1:=hB2.cell 1
 have z2:=hB2.cell 2
 have z3:=hB2.cell 3
 have z4:=hB2.cell 4
 have z5:=hB2.cell 5
 have z6:=hB2.cell 6
 simp only [nqg,nqh,nqi] at z0 z1 z2 z3 z4 z5 z6
 go_wp2_with fail
 refine (in30_any _ _ _).mono ?_
 rintro e w' ⟨rfl,rfl⟩
 rw [hin]
 go_wp2_with fail
 refine (scale29_yes m.Ab m.cb m.t.brs k count w1 (h.brs.adv hbel1) HT.out.brs (by omega) n0 k1 n1).mono ?_
 rintro e w2 ⟨v2,rfl,hown2,hb2⟩
 have hB3:=hB2.adv hb2
 have hbel2:=bel_adv hbel1 hb2
 have HBS:=Lib.hid (scaleN_ok (num:=k) (den:=count) HT.out.brs (by omega) n0 k1)
 obtain ⟨A2,c2,rfl,hS2,_,_,_⟩:=hown2.form2 encBr_len
 have hlt3:=hB3.lt
 clear hB2 hb2 hown2 z0 z1 z2 z3 z4 z5 z6
 have z0:=hB3.cell 0
 have z1:=hB3.cell 1
 have z2:=hB3.cell 2
 have z3:=hB3.cell 3
 have z4:=hB3.cell 4
 have z5:=hB3.cell 5
 have z6:=hB3.cell 6
 simp only [nqg,nqh,nqi] at z0 z1 z2 z3 z4 z5 z6
 have hcon:∀ p:Bw w2,Calls Tryz.prog 148 #[.agg #[.int .i64 m.t.method,.slice m.Ab m.t.brs.length m.cb,.int .i64 m.t.allowance,.int .i64 m.t.credit,.int .i64 m.t.unit,.int .i64 m.t.mode,.slice m.Ar m.t.rows.length m.cr],.slice A2 (scaleN m.t.brs k count).length c2,.int .i64 (m.t.allowance * k / count),.int .i64 (m.t.credit * k / count),.int .i64 total] p.w' fun e w'=>e = .returned (.int .i64 (dueN m.t count k total))∧Below p.w'.heap.size p.w' w':=fun p=>by
  rw [HD.out]
  exact tax30_ok m A2 c2 (scaleN m.t.brs k count) (m.t.allowance * k / count) (m.t.credit * k / count) total p.w' (hS2.adv p.h) HBS.out HT.out q0 q1 q2 q3 i0 i1
 have HCON:=Lib.hid hcon
 clear hcon
 generalize m.t.allowance * k / count = qa at *
 generalize m.t.credit * k / count = qc at *
 go_wp2_with fail
 have y0:=Bw.cell (w:=w2) (a:=⟨w.heap.size,0,none⟩) (by exact hlt3) z0
 have y1:=Bw.cell (w:=w2) (a:=⟨w.heap.size,1,none⟩) (by exact hlt3) z1
 have y2:=Bw.cell (w:=w2) (a:=⟨w.heap.size,2,none⟩) (by exact hlt3) z2
 have y3:=Bw.cell (w:=w2) (a:=⟨w.heap.size,3,none⟩) (by exact hlt3) z3
 have y4:=Bw.cell (w:=w2) (a:=⟨w.heap.size,4,none⟩) (by exact hlt3) z4
 have y5:=Bw.cell (w:=w2) (a:=⟨w.heap.size,5,none⟩) (by exact hlt3) z5
 have y6:=Bw.cell (w:=w2) (a:=⟨w.heap.size,6,none⟩) (by exact hlt3) z6
 refine wp_region_below (by kernel_rfl) (by kernel_rfl) ?_
 repeat (go_big_quiet_step ((with_reducible exact Bw.call _ (HCON.out _))))
 refine wpQuiet_nil ?_
 intro W2 hw'
 obtain ⟨⟨W9,hW2⟩,hw''⟩:=hw'
 subst hw''
 go_wp2
 go_ret2
 exact ⟨rfl,bel_adv hbel2 hW2⟩
end Go.Proofs.YtjncpgbhokjbfaaGreat
namespace Go.Proofs.YtjncpgbhokjbfaaGreat
open Go.RowKit
theorem due_bd {t:TarT} {count k total : Int} (hT:TarOk t) (n0:1≤count) (n1:count≤53) (k0:1≤k) (k1:k≤count) (i0:0≤total) (i1:total≤1000000000000) : 0≤dueN t count k total∧dueN t count k total≤1000000000100:=by
 obtain ⟨_,_,⟨q0,_⟩,q2,_⟩:=due_sizes hT n0 n1 k0 k1
 have:=tax30_bd (t:=t) (inc:=total) (scaleN_ok (num:=k) (den:=count) hT.brs (by omega) n0 k1) hT.u0 hT.u1 q0 q2 i0
 unfold dueN
 omega
set_option maxRecDepth 100000 in
set_option maxHeartbeats 2000000 in
theorem cumulative30_ok (m:TarM) (count k total wh : Int) (w:World) (h:m.In w) (hT:TarOk m.t) (n0:1≤count) (n1:count≤53) (k0:1≤k) (k1:k≤count) (i0:0≤total) (i1:total≤1000000000000) (w0 : -1000000000000≤wh) (w1' : wh≤1000000000000) :
  Calls Tryz.prog 106 #[m.val,.int .i64 count,.int .i64 k,.int .i64 total,.int .i64 wh] w fun e w'=>e = .returned (.tuple #[.int .i64 (dueN m.t count k total - wh),.int .i64 0])∧Below w.heap.size w w':=by
 obtain ⟨d0,d1⟩:=due_bd hT n0 n1 k0 k1 i0 i1
 have hB1:=Blk.new w 69 #[.int .i64 m.t.method,.slice m.Ab m.t.brs.length m.cb,.int .i64 m.t.allowance,.int .i64 m.t.credit,.int .i64 m.t.unit,.int .i64 m.t.mode,.slice m.Ar m.t.rows.length m.cr]
 have hbel:=below_new w (.cells #[.int .i64 m.t.method,.slice m.Ab m.t.brs.length m.cb,.int .i64 m.t.allowance,.int .i64 m.t.credit,.int .i64 m.t.unit,.int .i64 m.t.mode,.slice m.Ar m.t.rows.length m.cr] 69)
 have HT:=Lib.hid hT
 clear hT
 unfold TarM.val
 go_enter Tryz.func106,Tryz.ntmps106
 go_upto_region 1 with fail
 generalize w.alloc (Obj.cells _ _) = W at hB1 hbel ⊢
 have z0:=hB1.cell 0
 have z1:=hB1.cell 1
 have z2:=hB1.cell 2
 have z3:=hB1.cell 3
 have z4:=hB1.cell 4
 have z5:=hB1.cell 5
 have z6:=hB1.cell 6
 simp only [nqg,nqh,nqi] at z0 z1 z2 z3 z4 z5 z6
 go_wp2_with fail
 have hcon:=due30_ok m count k total W (h.adv hbel) HT.out n0 n1 k0 k1 i0 i1
 unfold TarM.val at hcon
 refine hcon.mono ?_
 rintro e w1 ⟨rfl,hb1⟩
 clear hcon
 generalize hdn:dueN m.t count k total = dn at *
 have HDN:=Lib.hid hdn
 clear hdn
 go_wp2
 go_ret2
 exact ⟨by rw [HDN.out]; rfl,bel_adv hbel hb1⟩
set_option maxRecDepth 100000 in
set_option maxHeartbeats 4000000 in
theorem withhold30_ok (m:TarM) (count periods yinc withheld inc : Int) (Ai At : Option Addr) (li ci lt ct : Nat) (w:World) (h:m.In w) (hT:TarOk m.t) (n0:1≤count) (n1:count≤53) (p0:0≤periods) (p1:periods < count) (i0:0≤inc) (i1:inc≤1000000000) (y0:0≤yinc) (y1:yinc≤999000000000) (w0 : -1000000000000≤withheld) (w1' : withheld≤1000000000000) :
  Calls Tryz.prog 57 #[m.val,.int .i64 count,.agg #[.int .i64 periods,.int .i64 yinc,.int .i64 withheld,.slice Ai li ci,.slice At lt ct],.int .i64 inc] w fun e w'=>e = .returned (.tuple #[.int .i64 (withN m.t count periods yinc withheld inc),.int .i64 0])∧Below w.heap.size w w':=by
 have hi1:inB inc 1000000000 = true:=inB_iff.2 ⟨i0,i1⟩
 have hi2:inB yinc 999000000000 = true:=inB_iff.2 ⟨y0,y1⟩
 have hB1:=(Blk.new w 69 #[.int .i64 m.t.method,.slice m.Ab m.t.brs.length m.cb,.int .i64 m.t.allowance,.int .i64 m.t.credit,.int .i64 m.t.unit,.int .i64 m.t.mode,.slice m.Ar m.t.rows.length m.cr]).alloc (.cells #[.int .i64 periods,.int .i64 yinc,.int .i64 withheld,.slice Ai li ci,.slice At lt ct] 81)
 have hY1:=Blk.new (w.alloc (.cells #[.int .i64 m.t.method,.slice m.Ab m.t.brs.length m.cb,.int .i64 m.t.allowance,.int .i64 m.t.credit,.int .i64 m.t.unit,.int .i64 m.t.mode,.slice m.Ar m.t.rows.length m.cr] 69)) 81 #[.int .i64 periods,.int .i64 yinc,.int .i64 withheld,.slice Ai li ci,.slice At lt ct]
 have hbel:=bel_alloc (below_new w (.cells #[.int .i64 m.t.method,.slice m.Ab m.t.brs.length m.cb,.int .i64 m.t.allowance,.int .i64 m.t.credit,.int .i64 m.t.unit,.int .i64 m.t.mode,.slice m.Ar m.t.rows.length m.cr] 69)) (.cells #[.int .i64 periods,.int .i64 yinc,.int .i64 withheld,.slice Ai li ci,.slice At lt ct] 81)
 rw [World.size_alloc] at hY1
 have HT:=Lib.hid hT
 have HW:Hid (withN m.t count periods yinc withheld inc = if m.t.method = 1 then lookN m.t.rows inc else if m.t.method = 2 then formulaN m.t inc count else dueN m.t count (periods+1) (yinc+inc) - withheld):=rfl
 have hme0:=hT.m0
 have hme1:=hT.m1
 clear hT
 unfold TarM.val
 go_enter Tryz.func57,Tryz.ntmps57
 go_upto_region 1 with fail
 generalize (w.alloc (Obj.cells #[.int .i64 m.t.method,.slice m.Ab m.t.brs.length m.cb,.int .i64 m.t.allowance,.int .i64 m.t.credit,.int .i64 m.t.unit,.int .i64 m.t.mode,.slice m.Ar m.t.rows.length m.cr] 69)).alloc (Obj.cells #[.int .i64 periods,.int .i64 yinc,.int .i64 withheld,.slice Ai li ci,.slice At lt ct] 81) = W at hB1 hY1 hbel ⊢
 have z0:=hB1.cell 0
 have z1:=hB1.cell 1
 have z2:=hB1.cell 2
 have z3:=hB1.cell 3
 have z4:=hB1.cell 4
 have z5:=hB1.cell 5
 have z6:=hB1.cell 6
 simp only [nqg,nqh,nqi] at z0 z1 z2 z3 z4 z5 z6
 go_wp2_with fail
 have hcon:=valid30_yes m W (h.adv hbel) HT.out
 unfold TarM.val at hcon
 refine hcon.mono ?_
 rintro e w1 ⟨rfl,hb1⟩
 have hB2:=hB1.adv hb1
 have hY2:=hY1.adv hb1
 have hbel1:=bel_adv hbel hb1
 clear hcon hB1 hY1 hb1 z0 z1 z2 z3 z4 z5 z6
 have z0:=hB2.cell 0
 have z1:=hB2.cell 1
 have z2:=hB2.cell 2
 have z3:=hB2.cell 3
 have z4:=hB2.cell 4
 have z5:=hB2.cell 5
 have z6:=hB2.cell 6
 simp only [nqg,nqh,nqi] at z0 z1 z2 z3 z4 z5 z6
 have y0:=hY2.cell 0
 have y1:=hY2.cell 1
 have y2:=hY2.cell 2
 have y3:=hY2.cell 3
 have y4:=hY2.cell 4
 simp only [nqg,nqh,nqi] at y0 y1 y2 y3 y4
 go_wp2_with fail
 refine (in30_any _ _ _).mono ?_
 rintro e w' ⟨rfl,rfl⟩
 rw [hi1]
 go_wp2_with fail
 refine (in30_any _ _ _).mono ?_
 rintro e w' ⟨rfl,rfl⟩
 rw [hi2]
 have hmc:m.t.method = 1 ∨ m.t.method = 2 ∨ m.t.method = 3:=by omega
 rcases hmc with hm | hm | hm
 ·
  have HR:=Lib.hid (HT.out.rows hm)
  have HW2:Hid (withN m.t count periods yinc withheld inc = lookN m.t.rows inc):=by rw [Hid,HW.out,if_pos hm]
  rw [hm] at z0
  clear HW hm
  go_wp2_with fail
  refine (lookup30_ok m.Ar m.cr m.t.rows inc w1 (h.rows.adv hbel1) HR.out i0 i1).mono ?_
  rintro e w2 ⟨rfl,q2,rfl⟩
  go_wp2
  go_ret2
  exact ⟨by rw [HW2.out]; rfl,below_drewN hbel1 q2⟩
 ·
  have HW2:Hid (withN m.t count periods yinc withheld inc = formulaN m.t inc count):=by rw [Hid,HW.out,if_neg (by omega),if_pos hm]
  have hcon:=formula30_ok m inc count w1 (h.adv hbel1) HT.out i0 i1 n0 n1
  unfold TarM.val at hcon
  have HC:=Lib.hid hcon
  rw [hm] at z0 HC
  clear hcon HW hm
  go_wp2_with fail
  refine Calls.mono HC.out ?_
  rintro e w2 ⟨rfl,hb2⟩
  go_wp2
  go_ret2
  exact ⟨by rw [HW2.out]; rfl,bel_adv hbel1 hb2⟩
 ·
  have HW2:Hid (withN m.t count periods yinc withheld inc = dueN m.t count (periods+1) (yinc+inc) - withheld):=by rw [Hid,HW.out,if_neg (by omega),if_neg (by omega)]
  have hcon:=cumulative30_ok m count (periods+1) (yinc+inc) withheld w1 (h.adv hbel1) HT.out n0 n1 (by omega) (by omega) (by omega) (by omega) w0 w1'
  unfold TarM.val at hcon
  have HC:=Lib.hid hcon
  rw [hm] at z0 HC
  clear hcon HW hm
  go_wp2_with fail
  refine Calls.mono HC.out ?_
  rintro e w2 ⟨rfl,hb2⟩
  go_wp2
  go_ret2
  exact ⟨by rw [HW2.out]; rfl,bel_adv hbel1 hb2⟩
end Go.Proofs.YtjncpgbhokjbfaaGreat
namespace Go.Proofs.YtjncpgbhokjbfaaGreat
open Go.RowKit
theorem nodup_le {α:Type} [DecidableEq α] : ∀ {l m : List α},l.Pairwise (· ≠ ·)→(∀ x ∈ l,x ∈ m)→l.length≤m.length
 | [],m,_,_=>by simp
 | a :: l,m,h,hs=>by
  obtain ⟨h1,h2⟩:=List.pairwise_cons.1 h
  have hm:=hs a (by simp)
  have h3:=nodup_le (m:=m.erase a) h2 (fun x hx=>(List.mem_erase_of_ne (fun e=>h1 x hx e.symm)).2 (hs x (by simp [hx])))
  rw [List.length_erase_of_mem hm] at h3
  have:=List.length_pos_of_mem hm
  simp only [List.length_cons]
  omega
theorem takeE_inv {l:List DedT} {base avail : Int} {year:List Elem} (h:takeE l base avail year = 0) : validD l = true∧recB year = true∧(0≤base∧base≤1000000000)∧0≤avail∧avail≤1000000000:=by
 unfold takeE at h
 split at h
 ·
  cases h
 ·
  split at h
  ·
   cases h
  ·
   split at h
   ·
    cases h
   ·
    split at h
    ·
     cases h
    ·
     rename_i a b c d
     exact ⟨by simpa using a,by simpa using b,inB_iff.1 (by simpa using c),inB_iff.1 (by simpa using d)⟩
theorem name_size {c:ByteArray} (h:nameB c = true) : c.size≤24:=by
 simp only [nameB,Bool.and_eq_true,decide_eq_true_eq] at h
 exact h.1.1.2
theorem name_max {c:ByteArray} (h:nameB c = true) : c.size≤maxLen:=Nat.le_trans (name_size h) (by unfold maxLen; omega)
theorem take_facts {l:List DedT} {before:Bool} {base avail : Int} {year:List Elem} (h:takeE l base avail year = 0) :
  SortedE (takeR l before base avail year)∧(∀ x ∈ takeR l before base avail year,nameB x.code = true∧0≤x.amount∧x.amount≤1000000000)∧0≤sumE (takeR l before base avail year)∧sumE (takeR l before base avail year)≤avail∧(takeR l before base avail year).length≤16:=by
 obtain ⟨hv,hr,⟨b0,b1⟩,a0,a1⟩:=takeE_inv h
 obtain ⟨hl,hok,hasc⟩:=validD_iff.1 hv
 have hok':∀ x ∈ ordD l,DedOk x:=fun x hx=>hok x ((mem_ordD hok x).1 hx)
 rw [takeR_ok h]
 have hm:=tk_mem (before:=before) (year:=year) hok' b0 b1 avail a0
 have hs:=sumE_tk (before:=before) (year:=year) (ordD l) hok' b0 b1 avail a0
 have hr2:=rst_bd (before:=before) (year:=year) hok' b0 b1 avail a0
 have hpos:∀ x ∈ tk before base year (ordD l) avail,0≤x.amount:=fun x hx=>by have:=(hm x hx).2.1; omega
 refine ⟨sumsP_sorted _,fun x hx=>?_,?_,?_,?_⟩
 ·
  obtain ⟨y,hy,e⟩:=sumsP_codes hx
  obtain ⟨⟨d,hd,hc⟩,_⟩:=hm y hy
  have h1:=sumsP_le hpos hx
  exact ⟨by rw [← e,hc]; exact (hok' d hd).name,h1.1,by omega⟩
 ·
  rw [sumE_sumsP,hs]; omega
 ·
  rw [sumE_sumsP,hs]; omega
 ·
  refine Nat.le_trans (taken_len _ _ _ _ _) ?_
  have hp:(ordD l).Nodup:=(ordD_sorted hasc).imp (fun {a b} hab e=>by subst e; exact LtD.irr _ hab)
  have:(ordD l).length≤l.length:=nodup_le hp (fun x hx=>(mem_ordD hok x).1 hx)
  omega
theorem sortedE_putO {out:List Elem} (h:SortedE out) (o:OrdT) (p:Int) : SortedE (putO out o p):=by
 unfold putO; split
 ·
  exact sorted_put h _
 ·
  exact h
theorem sortedE_puts : ∀ (os:List OrdT) (ps:List Int) {out:List Elem},SortedE out→SortedE (putsG out os ps)
 | [],ps,out,h=>by cases ps <;> exact h
 | o :: r,[],out,h=>h
 | o :: r,p :: ps,out,h=>by rw [putsG]; exact sortedE_puts r ps (sortedE_putO h o p)
structure SrvOk (l:List OrdT) (left:Int) (out:List Elem) (taken:Int) (R:List Elem × Int) : Prop where
 pos:∀ x ∈ R.1,0≤x.amount
 code:∀ x ∈ R.1,∃ o ∈ l,x.code = o.id
 sorted:SortedE R.1
 sum:sumE R.1 - sumE out = R.2 - taken
 lo:taken≤R.2
 hi:R.2 - taken≤left
theorem srv_facts {l:List OrdT} {priv:Bool} (hok : ∀ o ∈ l,OrdOk o) : ∀ (n:Nat) (last:Int × Int) (left:Int) (out:List Elem) (taken:Int),0≤left→(∀ x ∈ out,0≤x.amount)→(∀ x ∈ out,∃ o ∈ l,x.code = o.id)→SortedE out→SrvOk l left out taken (srv l priv n last left out taken):=by
 intro n
 induction n with
 | zero=>intro last left out taken h1 h2 h3 h4; exact ⟨h2,h3,h4,by simp [srv],by simp [srv],by simp [srv]; exact h1⟩
 | succ n ih =>
  intro last left out taken h1 h2 h3 h4
  rw [srv]
  split
  ·
   exact ⟨h2,h3,h4,by simp,by simp,by simp; exact h1⟩
  ·
   obtain ⟨p1,p2,p3⟩:=parts_bd (k:=nextK l priv last) hok h1
   have hA:AtOk l out.length out:=⟨h2,h3,Nat.le_refl _⟩
   have hB:=AtOk.puts (l.filter (inGrp (nextK l priv last))) (partsG l (nextK l priv last) left) hA (fun o ho=>mem_flt ho)
   have I:=ih (nextK l priv last) (left - sumI (partsG l (nextK l priv last) left)) _ (taken+sumI (partsG l (nextK l priv last) left)) (by omega) hB.pos hB.code (sortedE_puts _ _ h4)
   have hs:=sumE_putsG (l.filter (inGrp (nextK l priv last))) (partsG l (nextK l priv last) left) out (parts_len _ _ _).symm p1
   refine ⟨I.pos,I.code,I.sorted,?_,?_,?_⟩
   ·
    have:=I.sum; rw [hs] at this; omega
   ·
    have:=I.lo; omega
   ·
    have:=I.hi; omega
theorem prot_bd {s:ShT} {net deps : Int} (h:ShOk s) (hn:0≤net) (hn1:net≤1000000000) (hd:0≤deps) (hd1:deps≤20) :
  (0≤protP s deps∧protP s deps≤21000000000)∧(0≤protN s net deps∧protN s net deps≤net)∧(0≤lowN s net deps∧lowN s net deps≤net)∧(0≤s.dependent * deps∧s.dependent * deps≤20000000000):=by
 have h1:0≤s.dependent * deps:=Int.mul_nonneg h.d0 hd
 have h2:s.dependent * deps≤1000000000 * 20:=Int.mul_le_mul h.d1 hd1 hd (by omega)
 have f0:=h.f0
 have f1:=h.f1
 have l0:=h.l0
 have hp:0≤protP s deps∧protP s deps≤21000000000:=by unfold protP; omega
 refine ⟨hp,?_,by unfold lowN; omega,by omega⟩
 unfold protN
 split
 ·
  omega
 ·
  rename_i hlt
  have e0:0≤min net (max s.top (protP s deps)) - protP s deps:=by omega
  obtain ⟨_,a2,a3,_⟩:=part_ok (unit:=1) (mode:=3) e0 (by omega) h.s0 h.s1 (by omega) (by omega) (by omega) (by omega)
  have:=rate_part (min net (max s.top (protP s deps)) - protP s deps) s.share 3 e0 (by omega) h.s0 h.s1 (by decide)
  omega
structure AttOk (net:Int) (l:List OrdT) (R:List Elem) : Prop where
 pos:∀ x ∈ R,0≤x.amount
 hi:∀ x ∈ R,x.amount≤net
 name:∀ x ∈ R,nameB x.code = true
 code:∀ x ∈ R,∃ o ∈ l,x.code = o.id
 sorted:SortedE R
 lo:0≤sumE R
 sum:sumE R≤net
theorem sumE_mem {l:List Elem} (h : ∀ x ∈ l,0≤x.amount) : 0≤sumE l∧∀ x ∈ l,x.amount≤sumE l:=by
 induction l with
 | nil=>exact ⟨by simp [sumE],by simp⟩
 | cons a l ih =>
  obtain ⟨i1,i2⟩:=ih (fun x hx=>h x (by simp [hx]))
  have ha:=h a (by simp)
  refine ⟨by simp only [sumE]; omega,fun x hx=>?_⟩
  simp only [sumE]
  rcases List.mem_cons.1 hx with e | e
  ·
   subst e; omega
  ·
   have:=i2 x e; omega
theorem attach_facts {s:ShT} {net deps : Int} {l:List OrdT} (h:ShOk s) (hl:OrdsOk l) (hn:0≤net) (hn1:net≤1000000000) (hd:0≤deps) (hd1:deps≤20) :
  AttOk net l (attachN s net deps l)∧SrvOk l (net - lowN s net deps) [] 0 (serveN [] l true (net - lowN s net deps)):=by
 obtain ⟨_,⟨p0,p1⟩,⟨w0,w1⟩,_⟩:=prot_bd h hn hn1 hd hd1
 have I:=srv_facts (priv:=true) hl.ok (cntK l true (-1,-1)) (-1,-1) (net - lowN s net deps) [] 0 (by omega) (by simp) (by simp) List.Pairwise.nil
 have J:=srv_facts (priv:=false) hl.ok (cntK l false (-1,-1)) (-1,-1) (max (net - protN s net deps - (serveN [] l true (net - lowN s net deps)).2) 0) (serveN [] l true (net - lowN s net deps)).1 0 (by omega) I.pos I.code I.sorted
 refine ⟨?_,I⟩
 have i1:=I.sum
 have i2:=I.lo
 have i3:=I.hi
 have j1:=J.sum
 have j2:=J.lo
 have j3:=J.hi
 have e:attachN s net deps l = (serveN (serveN [] l true (net - lowN s net deps)).1 l false (max (net - protN s net deps - (serveN [] l true (net - lowN s net deps)).2) 0)).1:=rfl
 rw [e]
 simp only [sumE] at i1
 have hs:sumE (serveN (serveN [] l true (net - lowN s net deps)).1 l false (max (net - protN s net deps - (serveN [] l true (net - lowN s net deps)).2) 0)).1≤net:=by
  have e1:(serveN [] l true (net - lowN s net deps)) = srv l true (cntK l true (-1,-1)) (-1,-1) (net - lowN s net deps) [] 0:=rfl
  have e2:(serveN (serveN [] l true (net - lowN s net deps)).1 l false (max (net - protN s net deps - (serveN [] l true (net - lowN s net deps)).2) 0)) = srv l false (cntK l false (-1,-1)) (-1,-1) (max (net - protN s net deps - (serveN [] l true (net - lowN s net deps)).2) 0) (serveN [] l true (net - lowN s net deps)).1 0:=rfl
  rw [e2]
  rw [e1] at j1 j3 ⊢
  omega
 obtain ⟨m0,m1⟩:=sumE_mem J.pos
 refine ⟨J.pos,fun x hx=>?_,fun x hx=>?_,J.code,J.sorted,m0,hs⟩
 ·
  have:=m1 x hx
  have e2:(serveN (serveN [] l true (net - lowN s net deps)).1 l false (max (net - protN s net deps - (serveN [] l true (net - lowN s net deps)).2) 0)) = srv l false (cntK l false (-1,-1)) (-1,-1) (max (net - protN s net deps - (serveN [] l true (net - lowN s net deps)).2) 0) (serveN [] l true (net - lowN s net deps)).1 0:=rfl
  rw [e2] at hs
  omega
 ·
  obtain ⟨o,ho,e⟩:=J.code x hx
  rw [e]; exact (hl.ok o ho).name
theorem addL_len (a b : List Int) : (addL a b).length = min a.length b.length:=by simp [addL]
theorem sumsJ_facts {n:Nat} (es:List (List Int × Int)) (hl : ∀ e ∈ es,e.1.length = n) (hb : ∀ e ∈ es,0≤e.2) (he : ∀ e ∈ es,∀ x ∈ e.1,0≤x) : ∀ acc : List Int,acc.length = n+1→(∀ x ∈ acc,0≤x) →
  (es.foldl (fun acc e=>addL acc (e.1++[e.2])) acc).length = n+1∧∀ x ∈ es.foldl (fun acc e=>addL acc (e.1++[e.2])) acc,0≤x:=by
 induction es with
 | nil=>intro acc h1 h2; exact ⟨h1,h2⟩
 | cons e es ih =>
  intro acc h1 h2
  have e1:=hl e (by simp)
  refine ih (fun x hx=>hl x (by simp [hx])) (fun x hx=>hb x (by simp [hx])) (fun x hx=>he x (by simp [hx])) _ (by rw [addL_len]; simp; omega) (fun x hx=>?_)
  unfold addL at hx
  obtain ⟨i,hi,rfl⟩:=List.mem_iff_getElem.1 hx
  rw [List.getElem_zipWith]
  simp only [List.length_zipWith,List.length_append,List.length_singleton] at hi
  have q1:=h2 _ (List.getElem_mem (show i < acc.length by omega))
  have q2 : 0 ≤ (e.1 ++ [e.2])[i]'(by simp; omega) := by
   have hm : (e.1 ++ [e.2])[i]'(by simp; omega) ∈ e.1 ++ [e.2] := List.getElem_mem _
   rcases List.mem_append.1 hm with h | h
   ·
    exact he e (by simp) _ h
   ·
    simp at h; rw [h]; exact hb e (by simp)
  omega
theorem sumsJ_len {n:Nat} {es:List (List Int × Int)} (h:EmpsOk n es) : (sumsJ n es).length = n+1∧∀ x ∈ sumsJ n es,0≤x :=
 sumsJ_facts es h.lens (fun e he=>(h.base e he).1) (fun e he x hx=>(h.earlier e he x hx).1) _ (by simp) (by intro x hx; rw [List.eq_of_mem_replicate hx]; omega)
theorem jointV_bd {s:SchT} {n:Nat} {es:List (List Int × Int)} (hs:SchOk s) (h:EmpsOk n es) :
  0≤(jointV s n es).base∧0≤(jointV s n es).employee∧0≤(jointV s n es).employer∧(jointV s n es).base≤54000000000∧(jointV s n es).employee≤54000000100∧(jointV s n es).employer≤54000000100:=by
 obtain ⟨h1,h2⟩:=sumsJ_len h
 have:=h.nn
 exact nextN_bd hs h2 (by omega) (by intro e; rw [e] at h1; simp at h1)
theorem bases_bd {n:Nat} {es:List (List Int × Int)} (h:EmpsOk n es) : ∀ x ∈ basesJ es,0≤x∧x≤1000000000:=by
 intro x hx
 obtain ⟨e,he,rfl⟩:=List.mem_map.1 hx
 exact h.base e he
theorem getD_le_sum {l:List Int} (h : ∀ x ∈ l,0≤x) (i:Nat) : l.getD i 0≤sumI l:=by
 rw [List.getD_eq_getElem?_getD]
 cases e:l[i]? with
 | none =>
  simp
  have:=sumI_bd (l:=l) (B:=sumI l) (fun x hx=>⟨h x hx,sumI_mem h hx⟩)
  omega
 | some v=>exact sumI_mem h (List.mem_of_getElem? e)
theorem divN_len (v:LevyT) (ws:List Int) : (divN v ws).length = ws.length:=by unfold divN; split <;> simp
theorem divN_bd {v:LevyT} {ws:List Int} (hw : ∀ x ∈ ws,0≤x∧x≤1000000000) (h0:0≤v.base) (h1:0≤v.employee) (h2:0≤v.employer) : ∀ x ∈ divN v ws,(0≤x.base∧x.base≤v.base)∧(0≤x.employee∧x.employee≤v.employee)∧(0≤x.employer∧x.employer≤v.employer):=by
 intro x hx
 unfold divN at hx
 split at hx
 ·
  rcases List.mem_or_eq_of_mem_set hx with e | e
  ·
   rw [List.eq_of_mem_replicate e]; simp only [zLv]; omega
  ·
   subst e; omega
 ·
  rename_i hne
  have hs:0 < sumI ws:=by have:=(sumI_bd hw).1; omega
  obtain ⟨i,_,rfl⟩:=List.mem_map.1 hx
  have key:∀ t:Int,0≤t→0≤(allocN t ws).getD i 0∧(allocN t ws).getD i 0≤t:=fun t ht=>by
   have hn:=allocN_nonneg ht (fun x hx=>(hw x hx).1) hs
   have:=getD_le_sum hn i
   rw [allocN_sum hs] at this
   exact ⟨getD_nonneg hn i,this⟩
  exact ⟨key _ h0,key _ h1,key _ h2⟩
theorem overJ_no {v:LevyT} (h:overJ v = false) : v.base≤1000000000∧v.employee≤1000000000∧v.employer≤1000000000:=by
 simp only [overJ,Bool.or_eq_false_iff,decide_eq_false_iff_not] at h
 omega
theorem jointR_bd {s:SchT} {n:Nat} {es:List (List Int × Int)} (hs:SchOk s) (h:EmpsOk n es) (ho:overJ (jointV s n es) = false) : ∀ x ∈ jointR s n es,(0≤x.employee∧x.employee≤1000000000)∧0≤x.employer∧x.employer≤1000000000:=by
 intro x hx
 obtain ⟨a,b,c,_⟩:=jointV_bd hs h
 obtain ⟨o1,o2,o3⟩:=overJ_no ho
 have:=divN_bd (bases_bd h) a b c x hx
 omega
section
variable {I:NetIn}
theorem InOk.emps (h:InOk I) (hp:I.y.periods < I.r.count) (hi:I.insured≤1000000000) : EmpsOk I.y.insured.length I.jobs:=by
 have e:=h.y.len
 have c1:=h.r.c1
 have n7:=h.p.nothers
 refine ⟨by simp [NetIn.jobs],by simp [NetIn.jobs]; omega,by omega,fun x hx=>?_,fun x hx=>?_,fun x hx=>?_⟩
 ·
  rcases List.mem_cons.1 hx with r | r
  ·
   subst r; rfl
  ·
   have:=h.same x r; omega
 ·
  rcases List.mem_cons.1 hx with r | r
  ·
   subst r; exact ⟨by show 0≤max _ _; omega,hi⟩
  ·
   exact h.p.base x r
 ·
  rcases List.mem_cons.1 hx with r | r
  ·
   subst r; exact h.y.ins
  ·
   exact h.p.earlier x r
theorem ofErr_inv {ws:List WageT} {l m : List Elem} (h:ofErr ws l m = 0) : validB ws = true∧preErr l = 0∧missing ws m = false∧amtsB (sumB ws m) = true:=by
 unfold ofErr at h
 split at h
 ·
  cases h
 ·
  split at h
  ·
   rename_i h2; exact absurd h h2
  ·
   split at h
   ·
    cases h
   ·
    split at h
    ·
     cases h
    ·
     rename_i a b c d
     exact ⟨by simpa using a,by simpa using b,by simpa using c,by simpa using d⟩
theorem amtB_iff {n:Int} : amtB n = true ↔ -1000000000≤n∧n≤1000000000:=by simp [amtB]
theorem amts_bd {b:BasesT} (h:amtsB b = true) : (-1000000000≤b.g∧b.g≤1000000000)∧(-1000000000≤b.c∧b.c≤1000000000)∧(-1000000000≤b.t∧b.t≤1000000000)∧(-1000000000≤b.i∧b.i≤1000000000)∧(-1000000000≤b.a∧b.a≤1000000000):=by
 simp only [amtsB,Bool.and_eq_true,amtB_iff] at h
 obtain ⟨⟨⟨⟨a,b⟩,c⟩,d⟩,e⟩:=h
 exact ⟨a,b,c,d,e⟩
theorem InOk.take1 (h:InOk I) (ho:ofErr I.r.wages I.e (sumsP I.e) = 0) : takeE I.p.deds I.base (max I.b.c 0) I.y.taken = 0:=by
 obtain ⟨_,⟨c0,c1⟩,_⟩:=amts_bd (ofErr_inv ho).2.2.2
 have e:I.b.c = (sumB I.r.wages (sumsP I.e)).c:=rfl
 refine takeE_0 h.p.deds h.y.taken (inB_iff.2 ?_) (inB_iff.2 ?_)
 ·
  unfold NetIn.base; omega
 ·
  omega
theorem InOk.levy (h:InOk I) (hp:I.y.periods < I.r.count) (hi:I.insured≤1000000000) {s:SchT} (hs:s ∈ I.r.schemes) (ho:overJ (jointV s I.y.insured.length I.jobs) = false) :
  (0≤(I.levyOf s).employee∧(I.levyOf s).employee≤1000000000)∧0≤(I.levyOf s).employer∧(I.levyOf s).employer≤1000000000:=by
 have hb:=jointR_bd (h.r.sch s hs) (h.emps hp hi) ho
 unfold NetIn.levyOf
 rw [List.getD_eq_getElem?_getD]
 cases e:(jointR s I.y.insured.length I.jobs)[0]? with
 | none=>simp [zLv]
 | some v=>exact hb v (List.mem_of_getElem? e)
end
end Go.Proofs.YtjncpgbhokjbfaaGreat
