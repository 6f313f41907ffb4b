/- Joined texts: Err33 Err33Proof. Conditions: as stated. -/
import Derived.Test.YtlhkojcmcmkmaaaGreatRows
import Derived.Test.YtlhkojcmcmkmaaaGreatJEx33
namespace Go.Proofs.YtlhkojcmcmkmaaaGreat
open Go.RowKit
def exT3 (Aw As Ab Ar : Option Addr) : RulesM:=⟨Aw,2,w3s,As,1,[sch3],⟨⟨1,[⟨0,0⟩],0,0,1,0,[⟨0,0⟩]⟩,Ab,1,Ar,1⟩,12,⟨0,0,0,0,0⟩,0⟩
theorem rows3_ok : RowsOk [⟨0,0⟩]:=by
 have h0:∀ i,i < [(⟨0,0⟩ : RowT)].length→i = 0:=fun i hi=>by
  have:i < 1:=hi
  omega
 refine ⟨by decide,by decide,rfl,fun i hi=>?_,fun i hi=>?_,fun i hi=>?_,fun i hi=>?_⟩
 all_goals first | (have h1:i+1 < 1:=hi; omega) | (obtain rfl:=h0 i hi; decide)
def t3 : RulesT:=⟨w3s,[sch3],⟨1,[⟨0,0⟩],0,0,1,0,[⟨0,0⟩]⟩,12,⟨0,0,0,0,0⟩,0⟩
theorem t3_ok : RulesOk t3:=⟨w3s_ok,by decide,r3_ok.sch,r3_ok.asc,⟨by decide,by decide,br3_ok,by decide,by decide,by decide,by decide,by decide,by decide,by decide,by decide,fun _=>rows3_ok,fun h=>absurd rfl h⟩,by decide,by decide,sh3_ok,by decide,by decide⟩
theorem exT3_ok (Aw As Ab Ar : Option Addr) : RulesOk (exT3 Aw As Ab Ar).t:=t3_ok
set_option maxRecDepth 100000 in
set_option maxHeartbeats 4000000 in
theorem solveT (m:RulesM) (y:YearM) (A:Option Addr) (l cap : Nat) (c:ByteArray) (t:Int) (w:World) (hr:m.In w) (hR:RulesOk m.t) (hm:m.tm.t.method = 1) :
  Calls Tryz.prog 42 #[.agg (rvM m),.agg (yQv y),.slice A l cap,.string c,.int .i64 t] w fun e w'=>e = .returned (.tuple #[.int .i64 0,.int .i64 20])∧Below w.heap.size w w':=by
 obtain ⟨W5,hW5⟩ : ∃ W5,W5 = ((((w.alloc (.cells (rvM m) 45)).alloc (.cells (yQv y) 53)).alloc (.cells #[.slice A l cap] 51)).alloc (.cells #[.string c] 9)).alloc (.cells #[.int .i64 t] 3):=⟨_,rfl⟩
 have hb5:Below w.heap.size w W5:=by
  rw [hW5]
  exact bel_alloc (bel_alloc (bel_alloc (bel_alloc (below_new _ _) _) _) _) _
 have hR5:Blk W5 w.heap.size 45 (rvM m):=by rw [hW5]; exact ((((Blk.new w _ _).alloc _).alloc _).alloc _).alloc _
 have HRF:=Lib.hid (refusedT m W5 (hr.adv hb5) hR hm)
 have HW5:=Lib.hid hW5
 clear hW5 hr hR hm
 go_enter Tryz.func42,Tryz.ntmps42
 go_upto_region 1 with fail
 rw [← HW5.out]
 clear HW5
 go_wp2_with (refine wpList_load_blk rfl _ _ rfl w.heap.size rfl hR5 Tryz.underlying45 rfl (by kernel_rfl) ?_)
 refine HRF.out.mono ?_
 rintro e w1 ⟨rfl,hb1⟩
 clear HRF hR5
 go_wp2
 go_ret2
 exact ⟨rfl,bel_adv hb5 hb1⟩
def er3 (c:ByteArray) (t:Int) : Int:=if c = sBase3 then (if t < 0 ∨ 1000000000 < t then 2 else if 99900000 < t then 16 else 0) else 9
theorem solveEx (Aw As Ab : Option Addr) (c:ByteArray) (t:Int) (W:World) (h : (exR3 Aw As Ab).In W) (hc:c = sBase3 ∨ c = sCar3 ∨ c = sNone3) :
  Calls Tryz.prog 42 #[.agg (rvM (exR3 Aw As Ab)),.agg (yQv y3M),.slice none 0 0,.string c,.int .i64 t] W fun e w'=>(∃ a:Int,e = .returned (.tuple #[.int .i64 a,.int .i64 (er3 c t)]))∧Below W.heap.size W w':=by
 have hkinds:∀ v ∈ w3s,v.kind = 1 ∨ v.kind = 2:=by decide +kernel
 have hfl:∀ s ∈ [sch3],s.floor = 0:=by decide +kernel
 have hg:(∃ v,findW w3s c = some v∧v.kind = 1)→GrIn r3 y3 [] c:=fun hv=>by
  rcases hc with rfl | rfl | rfl
  ·
   exact gr3
  ·
   exact absurd hv no3.1
  ·
   exact absurd hv no3.2
 refine (solveG (exR3 Aw As Ab) y3M none 0 [] c t W h ⟨SliceOf.nil_,SliceOf.nil_⟩ SliceOf.nil_ r3_ok (show (2:Int) ≠ 1 by decide) hfl gr3.lv hkinds hg).mono ?_
 rintro e w' ⟨⟨a,er,rfl,hs⟩,hb⟩
 refine ⟨⟨a,?_⟩,hb⟩
 have e1:er = er3 c t:=by
  rcases hc with rfl | rfl | rfl
  ·
   rw [er3,if_pos rfl]; exact err3 hs
  ·
   rw [er3,if_neg (by decide)]
   rcases hs with ⟨_,_,rfl⟩ | ⟨h0,_⟩ | ⟨h0,_⟩
   ·
    rfl
   ·
    exact absurd h0 no3.1
   ·
    exact absurd h0 no3.1
  ·
   rw [er3,if_neg (by decide)]
   rcases hs with ⟨_,_,rfl⟩ | ⟨h0,_⟩ | ⟨h0,_⟩
   ·
    rfl
   ·
    exact absurd h0 no3.2
   ·
    exact absurd h0 no3.2
 rw [e1]
set_option maxRecDepth 100000 in
set_option maxHeartbeats 8000000 in
theorem errors33_walk (target:Int) (table unknown benefit : Bool) (w:World) (ht:I64 target) :
  Calls Tryz.prog 14 #[.int .i64 target,.bool table,.bool unknown,.bool benefit] w fun e w'=>e = .returned (.bool true)∧Below w.heap.size w w':=by
 obtain ⟨k,hk⟩:=Int.eq_ofNat_of_zero_le (Int.emod_nonneg target (show (7:Int) ≠ 0 by omega))
 have hk7:k < 7:=by have:=Int.emod_lt_of_pos target (show (0:Int) < 7 by omega); omega
 have HK:=Lib.hid hk
 clear hk
 have hl7:k < [-1,0,1000000000,1000000001,90000000,90000001,target].length:=hk7
 obtain ⟨t,hT⟩ : ∃ t,t = [-1,0,1000000000,1000000001,90000000,90000001,target][k]:=⟨_,rfl⟩
 have HT:=Lib.hid hT
 have hti : -9223372036854775808≤t∧t≤9223372036854775807:=by
  have h1:t ∈ [-1,0,1000000000,1000000001,90000000,90000001,target]:=by rw [hT]; exact List.getElem_mem _
  have h2:=ht.1
  have h3:=ht.2
  simp only [nqj,nqk,or_false] at h1
  omega
 clear hT ht
 go_enter Tryz.func14,Tryz.ntmps14
 go_wp2_with fail
 refine (example33_any _).mono ?_
 rintro e w1 ⟨Aw,As,Ab,rfl,hR1,_,hb1⟩
 rw [show (exR3 Aw As Ab).val = .agg #[.slice Aw 2 2,.slice As 1 1,.int .i64 2,.slice Ab 1 1,.int .i64 0,.int .i64 0,.int .i64 1,.int .i64 0,.slice none 0 0,.int .i64 12,.int .i64 0,.int .i64 0,.int .i64 0,.int .i64 0,.int .i64 0,.int .i64 0] from rfl]
 have hB2:=Blk.new w1 45 #[.slice Aw 2 2,.slice As 1 1,.int .i64 2,.slice Ab 1 1,.int .i64 0,.int .i64 0,.int .i64 1,.int .i64 0,.slice none 0 0,.int .i64 12,.int .i64 0,.int .i64 0,.int .i64 0,.int .i64 0,.int .i64 0,.int .i64 0]
 have hbn:=below_new w1 (.cells #[.slice Aw 2 2,.slice As 1 1,.int .i64 2,.slice Ab 1 1,.int .i64 0,.int .i64 0,.int .i64 1,.int .i64 0,.slice none 0 0,.int .i64 12,.int .i64 0,.int .i64 0,.int .i64 0,.int .i64 0,.int .i64 0,.int .i64 0] 45)
 have hR2:=hR1.adv hbn
 have hb2:=bel_adv hb1 hbn
 have hgw:w.heap.size≤w1.heap.size:=hb1.size
 have HNE:Hid (∀ a,(Aw = some a ∨ As = some a ∨ Ab = some a)→a.block < w1.heap.size):=by
  rintro a (h | h | h)
  ·
   obtain ⟨b,off,e,hb,_⟩:=hR1.ws (List.cons_ne_nil _ _)
   rw [h] at e; injection e with e; subst e; exact hb
  ·
   obtain ⟨b,off,e,hb,_⟩:=hR1.ss (List.cons_ne_nil _ _)
   rw [h] at e; injection e with e; subst e; exact hb
  ·
   obtain ⟨b,off,e,hb,_⟩:=hR1.tm.brs (List.cons_ne_nil _ _)
   rw [h] at e; injection e with e; subst e; exact hb
 clear hR1 hb1 hbn
 go_upto_region 2 with fail
 generalize w1.alloc (Obj.cells _ _) = w2 at hB2 hR2 hb2 ⊢
 generalize w1.heap.size = g at *
 cases table
 ·
  cases unknown <;> cases benefit
  ·
   have HSO:Hid (∀ W,Below w2.heap.size w2 W→Calls Tryz.prog 42 #[.agg (rvM (exR3 Aw As Ab)),.agg (yQv y3M),.slice none 0 0,.string sBase3,.int .i64 t] W fun e w'=>(∃ a:Int,e = .returned (.tuple #[.int .i64 a,.int .i64 (er3 sBase3 t)]))∧Below W.heap.size W w'):=fun W hb=>solveEx Aw As Ab sBase3 t W (hR2.adv hb) (.inl rfl)
   clear hR2
   have hL:=lit_ints w2 [-1,0,1000000000,1000000001,90000000,90000001,target] #[.int .i64 (-1),.int .i64 0,.int .i64 1000000000,.int .i64 1000000001,.int .i64 90000000,.int .i64 90000001,.int .i64 target] rfl
   have hbl:=below_new w2 (.cells #[.int .i64 (-1),.int .i64 0,.int .i64 1000000000,.int .i64 1000000001,.int .i64 90000000,.int .i64 90000001,.int .i64 target] 3)
   have hB9:=hB2.adv hbl
   have hb9:=bel_adv hb2 hbl
   go_upto_region 9 with fail
   go_wp2_with fail
   refine (mod_any target 7 _ (by omega) (by omega)).mono ?_
   rintro e w3 ⟨rfl,rfl⟩
   rw [HK.out]
   obtain ⟨bb,off,hA,hbb,hc⟩:=hL.at_ hl7
   injection hA with hA
   injection hA with q1 q2
   subst q1 q2
   have c0:=hc 0 _ rfl
   rw [← HT.out] at c0
   simp only [Nat.add_zero,Nat.mul_one,Nat.zero_add] at c0
   clear hc hL hbb
   generalize w2.alloc (Obj.cells _ _) = w3 at c0 hbl hB9 hb9 ⊢
   go_wp2_with (refine wpList_load_blk rfl _ _ rfl g rfl hB9 Tryz.underlying45 rfl (by kernel_rfl) ?_)
   refine (HSO.out w3 hbl).mono ?_
   rintro e w4 ⟨⟨a,rfl⟩,hb4⟩
   have hbw4:=bel_adv hb9 hb4
   clear HSO hB9 hb9 hbl hb4 hB2 hb2 c0 HT hl7 HK
   by_cases h1:t < 0
   ·
    rw [show er3 sBase3 t = 2 by rw [er3,if_pos rfl,if_pos (.inl h1)]]
    go_wp2_with fail
    refine (awake33_any _).mono ?_
    rintro e w5 ⟨rfl,hb5⟩
    go_wp2
    go_ret
    exact ⟨rfl,bel_adv hbw4 hb5⟩
   by_cases h2:1000000000 < t
   ·
    rw [show er3 sBase3 t = 2 by rw [er3,if_pos rfl,if_pos (.inr h2)]]
    go_wp2_with fail
    refine (awake33_any _).mono ?_
    rintro e w5 ⟨rfl,hb5⟩
    go_wp2
    go_ret
    exact ⟨rfl,bel_adv hbw4 hb5⟩
   by_cases h3:99900000 < t
   ·
    rw [show er3 sBase3 t = 16 by rw [er3,if_pos rfl,if_neg (by omega),if_pos h3]]
    go_wp2_with fail
    refine (awake33_any _).mono ?_
    rintro e w5 ⟨rfl,hb5⟩
    go_wp2
    go_ret
    exact ⟨rfl,bel_adv hbw4 hb5⟩
   rw [show er3 sBase3 t = 0 by rw [er3,if_pos rfl,if_neg (by omega),if_neg h3]]
   go_wp2_with fail
   refine (awake33_any _).mono ?_
   rintro e w5 ⟨rfl,hb5⟩
   go_wp2
   go_ret
   exact ⟨rfl,bel_adv hbw4 hb5⟩
  ·
   have HSO:Hid (∀ W,Below w2.heap.size w2 W→Calls Tryz.prog 42 #[.agg (rvM (exR3 Aw As Ab)),.agg (yQv y3M),.slice none 0 0,.string sCar3,.int .i64 t] W fun e w'=>(∃ a:Int,e = .returned (.tuple #[.int .i64 a,.int .i64 (er3 sCar3 t)]))∧Below W.heap.size W w'):=fun W hb=>solveEx Aw As Ab sCar3 t W (hR2.adv hb) (.inr (.inl rfl))
   clear hR2
   have hL:=lit_ints w2 [-1,0,1000000000,1000000001,90000000,90000001,target] #[.int .i64 (-1),.int .i64 0,.int .i64 1000000000,.int .i64 1000000001,.int .i64 90000000,.int .i64 90000001,.int .i64 target] rfl
   have hbl:=below_new w2 (.cells #[.int .i64 (-1),.int .i64 0,.int .i64 1000000000,.int .i64 1000000001,.int .i64 90000000,.int .i64 90000001,.int .i64 target] 3)
   have hB9:=hB2.adv hbl
   have hb9:=bel_adv hb2 hbl
   go_upto_region 9 with fail
   go_wp2_with fail
   refine (mod_any target 7 _ (by omega) (by omega)).mono ?_
   rintro e w3 ⟨rfl,rfl⟩
   rw [HK.out]
   obtain ⟨bb,off,hA,hbb,hc⟩:=hL.at_ hl7
   injection hA with hA
   injection hA with q1 q2
   subst q1 q2
   have c0:=hc 0 _ rfl
   rw [← HT.out] at c0
   simp only [Nat.add_zero,Nat.mul_one,Nat.zero_add] at c0
   clear hc hL hbb
   generalize w2.alloc (Obj.cells _ _) = w3 at c0 hbl hB9 hb9 ⊢
   go_wp2_with (refine wpList_load_blk rfl _ _ rfl g rfl hB9 Tryz.underlying45 rfl (by kernel_rfl) ?_)
   refine (HSO.out w3 hbl).mono ?_
   rintro e w4 ⟨⟨a,rfl⟩,hb4⟩
   have hbw4:=bel_adv hb9 hb4
   clear HSO hB9 hb9 hbl hb4 hB2 hb2 c0 HT hl7 HK
   rw [show er3 sCar3 t = 9 by rw [er3,if_neg (by decide)]]
   go_wp2_with fail
   refine (awake33_any _).mono ?_
   rintro e w5 ⟨rfl,hb5⟩
   go_wp2
   go_ret
   exact ⟨rfl,bel_adv hbw4 hb5⟩
  ·
   have HSO:Hid (∀ W,Below w2.heap.size w2 W→Calls Tryz.prog 42 #[.agg (rvM (exR3 Aw As Ab)),.agg (yQv y3M),.slice none 0 0,.string sNone3,.int .i64 t] W fun e w'=>(∃ a:Int,e = .returned (.tuple #[.int .i64 a,.int .i64 (er3 sNone3 t)]))∧Below W.heap.size W w'):=fun W hb=>solveEx Aw As Ab sNone3 t W (hR2.adv hb) (.inr (.inr rfl))
   clear hR2
   have hL:=lit_ints w2 [-1,0,1000000000,1000000001,90000000,90000001,target] #[.int .i64 (-1),.int .i64 0,.int .i64 1000000000,.int .i64 1000000001,.int .i64 90000000,.int .i64 90000001,.int .i64 target] rfl
   have hbl:=below_new w2 (.cells #[.int .i64 (-1),.int .i64 0,.int .i64 1000000000,.int .i64 1000000001,.int .i64 90000000,.int .i64 90000001,.int .i64 target] 3)
   have hB9:=hB2.adv hbl
   have hb9:=bel_adv hb2 hbl
   go_upto_region 9 with fail
   go_wp2_with fail
   refine (mod_any target 7 _ (by omega) (by omega)).mono ?_
   rintro e w3 ⟨rfl,rfl⟩
   rw [HK.out]
   obtain ⟨bb,off,hA,hbb,hc⟩:=hL.at_ hl7
   injection hA with hA
   injection hA with q1 q2
   subst q1 q2
   have c0:=hc 0 _ rfl
   rw [← HT.out] at c0
   simp only [Nat.add_zero,Nat.mul_one,Nat.zero_add] at c0
   clear hc hL hbb
   generalize w2.alloc (Obj.cells _ _) = w3 at c0 hbl hB9 hb9 ⊢
   go_wp2_with (refine wpList_load_blk rfl _ _ rfl g rfl hB9 Tryz.underlying45 rfl (by kernel_rfl) ?_)
   refine (HSO.out w3 hbl).mono ?_
   rintro e w4 ⟨⟨a,rfl⟩,hb4⟩
   have hbw4:=bel_adv hb9 hb4
   clear HSO hB9 hb9 hbl hb4 hB2 hb2 c0 HT hl7 HK
   rw [show er3 sNone3 t = 9 by rw [er3,if_neg (by decide)]]
   go_wp2_with fail
   refine (awake33_any _).mono ?_
   rintro e w5 ⟨rfl,hb5⟩
   go_wp2
   go_ret
   exact ⟨rfl,bel_adv hbw4 hb5⟩
  ·
   have HSO:Hid (∀ W,Below w2.heap.size w2 W→Calls Tryz.prog 42 #[.agg (rvM (exR3 Aw As Ab)),.agg (yQv y3M),.slice none 0 0,.string sCar3,.int .i64 t] W fun e w'=>(∃ a:Int,e = .returned (.tuple #[.int .i64 a,.int .i64 (er3 sCar3 t)]))∧Below W.heap.size W w'):=fun W hb=>solveEx Aw As Ab sCar3 t W (hR2.adv hb) (.inr (.inl rfl))
   clear hR2
   have hL:=lit_ints w2 [-1,0,1000000000,1000000001,90000000,90000001,target] #[.int .i64 (-1),.int .i64 0,.int .i64 1000000000,.int .i64 1000000001,.int .i64 90000000,.int .i64 90000001,.int .i64 target] rfl
   have hbl:=below_new w2 (.cells #[.int .i64 (-1),.int .i64 0,.int .i64 1000000000,.int .i64 1000000001,.int .i64 90000000,.int .i64 90000001,.int .i64 target] 3)
   have hB9:=hB2.adv hbl
   have hb9:=bel_adv hb2 hbl
   go_upto_region 9 with fail
   go_wp2_with fail
   refine (mod_any target 7 _ (by omega) (by omega)).mono ?_
   rintro e w3 ⟨rfl,rfl⟩
   rw [HK.out]
   obtain ⟨bb,off,hA,hbb,hc⟩:=hL.at_ hl7
   injection hA with hA
   injection hA with q1 q2
   subst q1 q2
   have c0:=hc 0 _ rfl
   rw [← HT.out] at c0
   simp only [Nat.add_zero,Nat.mul_one,Nat.zero_add] at c0
   clear hc hL hbb
   generalize w2.alloc (Obj.cells _ _) = w3 at c0 hbl hB9 hb9 ⊢
   go_wp2_with (refine wpList_load_blk rfl _ _ rfl g rfl hB9 Tryz.underlying45 rfl (by kernel_rfl) ?_)
   refine (HSO.out w3 hbl).mono ?_
   rintro e w4 ⟨⟨a,rfl⟩,hb4⟩
   have hbw4:=bel_adv hb9 hb4
   clear HSO hB9 hb9 hbl hb4 hB2 hb2 c0 HT hl7 HK
   rw [show er3 sCar3 t = 9 by rw [er3,if_neg (by decide)]]
   go_wp2_with fail
   refine (awake33_any _).mono ?_
   rintro e w5 ⟨rfl,hb5⟩
   go_wp2
   go_ret
   exact ⟨rfl,bel_adv hbw4 hb5⟩
 ·
  -- a table: gross-up is refused
  have hlt2:=hB2.lt
  obtain ⟨o,ho⟩ : ∃ o,o = Obj.cells #[.int .i64 0,.int .i64 0] 93:=⟨_,rfl⟩
  have hBa:=hB2.set_ 2 (.int .i64 1)
  simp only [List.setIfInBounds_toArray,List.set_cons_succ,List.set_cons_zero] at hBa
  have hB3:=hB2.alloc o
  have hBb:=hBa.alloc o
  have p2:=hB2.cell 2
  have q2:=hB3.cell 2
  have q8:=hBb.cell 8
  have e2:=hB2.frozen 2
  have f2:=hB3.frozen 2
  have f8:=hBb.frozen 8
  have l3:=hB3.lt
  have l4:=hBb.lt
  simp only [nqg,nqh,nqi] at p2 q2 q8
  have hBc:=hBa.set_ 8 (.slice (some ⟨w2.heap.size,0,none⟩) 1 1)
  simp only [List.setIfInBounds_toArray,List.set_cons_succ,List.set_cons_zero] at hBc
  have hB5:=hBc.alloc o
  have hg5:w2.grownBy ((w2.setCell ⟨g,2,none⟩ (.int .i64 1)).setCell ⟨g,8,none⟩ (.slice (some ⟨w2.heap.size,0,none⟩) 1 1)) (some g):=only_setCell (p:=⟨g,8,none⟩) (only_setCell (p:=⟨g,2,none⟩) (only_refl _ _) (.inl rfl) _) (.inl rfl) _
  have hb5:Below w.heap.size w _:=bel_alloc (bel_only hb2 hg5 (fun q e=>by injection e with e; subst e; exact hgw)) o
  have hsz:((w2.setCell ⟨g,2,none⟩ (.int .i64 1)).setCell ⟨g,8,none⟩ (.slice (some ⟨w2.heap.size,0,none⟩) 1 1)).heap.size = w2.heap.size:=by simp [World.setCell]
  have hr5:=SliceOf.new encRw_len ((w2.setCell ⟨g,2,none⟩ (.int .i64 1)).setCell ⟨g,8,none⟩ (.slice (some ⟨w2.heap.size,0,none⟩) 1 1)) [⟨0,0⟩] #[.int .i64 0,.int .i64 0] 93 rfl
  rw [← ho,hsz] at hr5
  have hr6:=hr5.more (B':=(((w2.setCell ⟨g,2,none⟩ (.int .i64 1)).setCell ⟨g,8,none⟩ (.slice (some ⟨w2.heap.size,0,none⟩) 1 1)).alloc o).heap.size) (by rw [World.size_alloc,hsz]; exact Nat.le_refl _)
  have hR5:(exT3 Aw As Ab (some ⟨w2.heap.size,0,none⟩)).In _:=⟨(hR2.ws.advG hg5 (fun a ha=>by have:=HNE.out a (.inl ha); omega)).advA o,(hR2.ss.advG hg5 (fun a ha=>by have:=HNE.out a (.inr (.inl ha)); omega)).advA o,⟨(hR2.tm.brs.advG hg5 (fun a ha=>by have:=HNE.out a (.inr (.inr ha)); omega)).advA o,hr6⟩⟩
  clear hr5 hr6 hsz hBa hBc hg5
  subst ho
  go_upto_region 4 with fail
  generalize ((w2.setCell _ _).setCell _ _).alloc _ = w5 at hB5 hb5 hR5 ⊢
  clear hB3 hBb p2 q2 q8 e2 f2 f8 l3 l4 hB2 hR2 hb2
  generalize some (⟨w2.heap.size,0,none⟩ : Addr) = Ar at *
  cases unknown <;> cases benefit
  ·
   have HSO:Hid (∀ W,Below w5.heap.size w5 W→Calls Tryz.prog 42 #[.agg (rvM (exT3 Aw As Ab Ar)),.agg (yQv y3M),.slice none 0 0,.string sBase3,.int .i64 t] W fun e w'=>e = .returned (.tuple #[.int .i64 0,.int .i64 20])∧Below W.heap.size W w'):=fun W hb=>solveT (exT3 Aw As Ab Ar) y3M none 0 0 sBase3 t W (hR5.adv hb) (exT3_ok Aw As Ab Ar) rfl
   clear hR5
   have hL:=lit_ints w5 [-1,0,1000000000,1000000001,90000000,90000001,target] #[.int .i64 (-1),.int .i64 0,.int .i64 1000000000,.int .i64 1000000001,.int .i64 90000000,.int .i64 90000001,.int .i64 target] rfl
   have hbl:=below_new w5 (.cells #[.int .i64 (-1),.int .i64 0,.int .i64 1000000000,.int .i64 1000000001,.int .i64 90000000,.int .i64 90000001,.int .i64 target] 3)
   have hB9:=hB5.adv hbl
   have hb9:=bel_adv hb5 hbl
   go_upto_region 9 with fail
   go_wp2_with fail
   refine (mod_any target 7 _ (by omega) (by omega)).mono ?_
   rintro e w3 ⟨rfl,rfl⟩
   rw [HK.out]
   obtain ⟨bb,off,hA,hbb,hc⟩:=hL.at_ hl7
   injection hA with hA
   injection hA with q1 q2
   subst q1 q2
   have c0:=hc 0 _ rfl
   rw [← HT.out] at c0
   simp only [Nat.add_zero,Nat.mul_one,Nat.zero_add] at c0
   clear hc hL hbb
   generalize w5.alloc (Obj.cells _ _) = w3 at c0 hbl hB9 hb9 ⊢
   go_wp2_with (refine wpList_load_blk rfl _ _ rfl g rfl hB9 Tryz.underlying45 rfl (by kernel_rfl) ?_)
   refine (HSO.out w3 hbl).mono ?_
   rintro e w4 ⟨rfl,hb4⟩
   have hbw4:=bel_adv hb9 hb4
   clear HSO hB9 hb9 hbl hb4 hB5 hb5 c0 HT hl7 HK
   go_wp2_with fail
   refine (awake33_any _).mono ?_
   rintro e w6 ⟨rfl,hb6⟩
   go_wp2
   go_ret
   exact ⟨rfl,bel_adv hbw4 hb6⟩
  ·
   have HSO:Hid (∀ W,Below w5.heap.size w5 W→Calls Tryz.prog 42 #[.agg (rvM (exT3 Aw As Ab Ar)),.agg (yQv y3M),.slice none 0 0,.string sCar3,.int .i64 t] W fun e w'=>e = .returned (.tuple #[.int .i64 0,.int .i64 20])∧Below W.heap.size W w'):=fun W hb=>solveT (exT3 Aw As Ab Ar) y3M none 0 0 sCar3 t W (hR5.adv hb) (exT3_ok Aw As Ab Ar) rfl
   clear hR5
   have hL:=lit_ints w5 [-1,0,1000000000,1000000001,90000000,90000001,target] #[.int .i64 (-1),.int .i64 0,.int .i64 1000000000,.int .i64 1000000001,.int .i64 90000000,.int .i64 90000001,.int .i64 target] rfl
   have hbl:=below_new w5 (.cells #[.int .i64 (-1),.int .i64 0,.int .i64 1000000000,.int .i64 1000000001,.int .i64 90000000,.int .i64 90000001,.int .i64 target] 3)
   have hB9:=hB5.adv hbl
   have hb9:=bel_adv hb5 hbl
   go_upto_region 9 with fail
   go_wp2_with fail
   refine (mod_any target 7 _ (by omega) (by omega)).mono ?_
   rintro e w3 ⟨rfl,rfl⟩
   rw [HK.out]
   obtain ⟨bb,off,hA,hbb,hc⟩:=hL.at_ hl7
   injection hA with hA
   injection hA with q1 q2
   subst q1 q2
   have c0:=hc 0 _ rfl
   rw [← HT.out] at c0
   simp only [Nat.add_zero,Nat.mul_one,Nat.zero_add] at c0
   clear hc hL hbb
   generalize w5.alloc (Obj.cells _ _) = w3 at c0 hbl hB9 hb9 ⊢
   go_wp2_with (refine wpList_load_blk rfl _ _ rfl g rfl hB9 Tryz.underlying45 rfl (by kernel_rfl) ?_)
   refine (HSO.out w3 hbl).mono ?_
   rintro e w4 ⟨rfl,hb4⟩
   have hbw4:=bel_adv hb9 hb4
   clear HSO hB9 hb9 hbl hb4 hB5 hb5 c0 HT hl7 HK
   go_wp2_with fail
   refine (awake33_any _).mono ?_
   rintro e w6 ⟨rfl,hb6⟩
   go_wp2
   go_ret
   exact ⟨rfl,bel_adv hbw4 hb6⟩
  ·
   have HSO:Hid (∀ W,Below w5.heap.size w5 W→Calls Tryz.prog 42 #[.agg (rvM (exT3 Aw As Ab Ar)),.agg (yQv y3M),.slice none 0 0,.string sNone3,.int .i64 t] W fun e w'=>e = .returned (.tuple #[.int .i64 0,.int .i64 20])∧Below W.heap.size W w'):=fun W hb=>solveT (exT3 Aw As Ab Ar) y3M none 0 0 sNone3 t W (hR5.adv hb) (exT3_ok Aw As Ab Ar) rfl
   clear hR5
   have hL:=lit_ints w5 [-1,0,1000000000,1000000001,90000000,90000001,target] #[.int .i64 (-1),.int .i64 0,.int .i64 1000000000,.int .i64 1000000001,.int .i64 90000000,.int .i64 90000001,.int .i64 target] rfl
   have hbl:=below_new w5 (.cells #[.int .i64 (-1),.int .i64 0,.int .i64 1000000000,.int .i64 1000000001,.int .i64 90000000,.int .i64 90000001,.int .i64 target] 3)
   have hB9:=hB5.adv hbl
   have hb9:=bel_adv hb5 hbl
   go_upto_region 9 with fail
   go_wp2_with fail
   refine (mod_any target 7 _ (by omega) (by omega)).mono ?_
   rintro e w3 ⟨rfl,rfl⟩
   rw [HK.out]
   obtain ⟨bb,off,hA,hbb,hc⟩:=hL.at_ hl7
   injection hA with hA
   injection hA with q1 q2
   subst q1 q2
   have c0:=hc 0 _ rfl
   rw [← HT.out] at c0
   simp only [Nat.add_zero,Nat.mul_one,Nat.zero_add] at c0
   clear hc hL hbb
   generalize w5.alloc (Obj.cells _ _) = w3 at c0 hbl hB9 hb9 ⊢
   go_wp2_with (refine wpList_load_blk rfl _ _ rfl g rfl hB9 Tryz.underlying45 rfl (by kernel_rfl) ?_)
   refine (HSO.out w3 hbl).mono ?_
   rintro e w4 ⟨rfl,hb4⟩
   have hbw4:=bel_adv hb9 hb4
   clear HSO hB9 hb9 hbl hb4 hB5 hb5 c0 HT hl7 HK
   go_wp2_with fail
   refine (awake33_any _).mono ?_
   rintro e w6 ⟨rfl,hb6⟩
   go_wp2
   go_ret
   exact ⟨rfl,bel_adv hbw4 hb6⟩
  ·
   have HSO:Hid (∀ W,Below w5.heap.size w5 W→Calls Tryz.prog 42 #[.agg (rvM (exT3 Aw As Ab Ar)),.agg (yQv y3M),.slice none 0 0,.string sCar3,.int .i64 t] W fun e w'=>e = .returned (.tuple #[.int .i64 0,.int .i64 20])∧Below W.heap.size W w'):=fun W hb=>solveT (exT3 Aw As Ab Ar) y3M none 0 0 sCar3 t W (hR5.adv hb) (exT3_ok Aw As Ab Ar) rfl
   clear hR5
   have hL:=lit_ints w5 [-1,0,1000000000,1000000001,90000000,90000001,target] #[.int .i64 (-1),.int .i64 0,.int .i64 1000000000,.int .i64 1000000001,.int .i64 90000000,.int .i64 90000001,.int .i64 target] rfl
   have hbl:=below_new w5 (.cells #[.int .i64 (-1),.int .i64 0,.int .i64 1000000000,.int .i64 1000000001,.int .i64 90000000,.int .i64 90000001,.int .i64 target] 3)
   have hB9:=hB5.adv hbl
   have hb9:=bel_adv hb5 hbl
   go_upto_region 9 with fail
   go_wp2_with fail
   refine (mod_any target 7 _ (by omega) (by omega)).mono ?_
   rintro e w3 ⟨rfl,rfl⟩
   rw [HK.out]
   obtain ⟨bb,off,hA,hbb,hc⟩:=hL.at_ hl7
   injection hA with hA
   injection hA with q1 q2
   subst q1 q2
   have c0:=hc 0 _ rfl
   rw [← HT.out] at c0
   simp only [Nat.add_zero,Nat.mul_one,Nat.zero_add] at c0
   clear hc hL hbb
   generalize w5.alloc (Obj.cells _ _) = w3 at c0 hbl hB9 hb9 ⊢
   go_wp2_with (refine wpList_load_blk rfl _ _ rfl g rfl hB9 Tryz.underlying45 rfl (by kernel_rfl) ?_)
   refine (HSO.out w3 hbl).mono ?_
   rintro e w4 ⟨rfl,hb4⟩
   have hbw4:=bel_adv hb9 hb4
   clear HSO hB9 hb9 hbl hb4 hB5 hb5 c0 HT hl7 HK
   go_wp2_with fail
   refine (awake33_any _).mono ?_
   rintro e w6 ⟨rfl,hb6⟩
   go_wp2
   go_ret
   exact ⟨rfl,bel_adv hbw4 hb6⟩
end Go.Proofs.YtlhkojcmcmkmaaaGreat
namespace Go.Proofs.YtlhkojcmcmkmaaaGreat.grossupErrors
open Go.ChangeShapes Go.WideShapes Go.ChangeAt Go.RowKit
open Go.ChangeMaps (open_string shut_string)
theorem own : ownKnob Tryz.prog.godebug = none:=by kernel_rfl
theorem laidOut : laidOutB Tryz.prog = true:=by kernel_rfl
set_option maxRecDepth 100000 in
theorem lifted (os:Os) (started:os.Started) (H:Type) (enc:TypeId × Value→H) :
  ReturnsInHanded {} Tryz.checked os 14 .any (Rows.grossupErrorsSpec.pre6 enc Tryz.prog Tryz.f14 Rows.grossupErrorsRow.domain false) (Rows.grossupErrorsSpec.post enc Tryz.prog Tryz.f14 false true false false):=by
 refine returnsInHanded_of_change (C:=Tryz.checked) own started (by kernel_rfl) Tryz.func14
  (ChangeSpec.witness6 (enc:=enc) (C:=Tryz.checked) false ⟨#[],#[.int .i64 0,.bool false,.bool false,.bool false],[]⟩ 8 (by kernel_rfl) (by kernel_rfl) (by kernel_rfl) (by kernel_rfl)) ?_
 intro W base args ds gs before hval0 hW _ _
 have hval:∀ (j:Nat) t v,Tryz.f14.params[j]? = some t→args[j]? = some v→Value.okWide Tryz.prog W .any base t v:=hval0
 have hW':=hW
 obtain ⟨p,q,hA0,hV,rfl,_,_⟩:=hW
 have hA:DataW.TrodAll enc Tryz.prog W 0 (fun _=>true) true Tryz.f14.params.toList args.toList ds p:=hA0
 rw [Tryz.params14] at hA hval
 obtain ⟨v0,vs0,d0,ds0,p0,q0,hargs,rfl,rfl,h0,r0⟩:=trodAll_cons hA
 obtain ⟨v1,vs1,d1,ds1,p1,q1,rfl,rfl,rfl,h1,r1⟩:=trodAll_cons r0
 obtain ⟨v2,vs2,d2,ds2,p2,q2,rfl,rfl,rfl,h2,r2⟩:=trodAll_cons r1
 obtain ⟨v3,vs3,d3,ds3,p3,q3,rfl,rfl,rfl,h3,r3⟩:=trodAll_cons r2
 obtain ⟨rfl,rfl,rfl⟩:=trodAll_nil r3
 obtain rfl:args = #[v0,v1,v2,v3]:=by cases args; simp_all
 obtain ⟨rfl,rfl⟩:=trodVars_none hV
 obtain ⟨n0,rfl,rfl,rfl,wn0⟩:=open_int Tryz.underlying3 (hval 0 3 v0 rfl rfl) h0
 obtain ⟨b1,rfl,rfl,rfl⟩:=open_bool Tryz.underlying4 (hval 1 4 v1 rfl rfl) h1
 obtain ⟨b2,rfl,rfl,rfl⟩:=open_bool Tryz.underlying4 (hval 2 4 v2 rfl rfl) h2
 obtain ⟨b3,rfl,rfl,rfl⟩:=open_bool Tryz.underlying4 (hval 3 4 v3 rfl rfl) h3
 clear hA0 hval0
 refine (errors33_walk n0 b1 b2 b3 W (wf_I64 wn0)).mono fun e W' ⟨he,bel⟩=>?_
 subst he
 exact ⟨_,rfl,_,_,_,[],_,[],hW',trodAll_mk1 (shut_bool Tryz.underlying4 _),(trodAll_cons_mk (shut_int Tryz.underlying3 wn0) (trodAll_cons_mk (shut_bool Tryz.underlying4 b1) (trodAll_cons_mk (shut_bool Tryz.underlying4 b2) (trodAll_cons_mk (shut_bool Tryz.underlying4 b3) trodAll_mk0)))),rfl,bel.frame _,fun h=>by cases h⟩
theorem t4 : (Rows.grossupErrorsRow.inPlace == Tryz.prog.inPlace 14) = true:=by kernel_rfl
theorem t5 : (Rows.grossupErrorsRow.unfollowed == Tryz.prog.unfollowed 14) = true:=by kernel_rfl
theorem t6 : (Rows.grossupErrorsRow.recurses == Tryz.prog.recurses 14) = true:=by kernel_rfl
theorem t7 : (Rows.grossupErrorsRow.named == Tryz.prog.varsNamed 14) = true:=by kernel_rfl
theorem t8 : (Rows.grossupErrorsRow.pinned == Rows.grossupErrorsRow.pinnedBy) = true:=by kernel_rfl
theorem t9 : (Rows.grossupErrorsRow.lifted == Tryz.prog.liftsFinal) = true:=by kernel_rfl
theorem tc : joinedFacts Tryz.prog 14 Tryz.f14 Rows.grossupErrorsSpec Rows.grossupErrorsRow = true:=by
 unfold joinedFacts
 rw [t4,t5,t6,t7,t8,t9]
 kernel_rfl
theorem tf : Tryz.pinned.checked.prog.funcNamed Rows.grossupErrorsRow.func = some 14:=by kernel_rfl
theorem over : Rows.grossupErrorsRow.holds Tryz.pinned (OpenSpec.ofChange Rows.grossupErrorsSpec) :=
 OpenClaim.holds_of_wide 14 Tryz.f14 rfl rfl rfl rfl rfl rfl rfl ⟨rfl,rfl,rfl,rfl,rfl⟩ rfl rfl rfl rfl rfl tf Tryz.func14 tc
  (of_decide_eq_true (by kernel_rfl)) (by unfold Func.isWrapper; first | (rw [if_pos (by decide +kernel)]; kernel_rfl) | (rw [if_neg (by decide +kernel)]; exact ⟨rfl,rfl⟩))
  (fun os started H enc _=>lifted os started H enc)
theorem proved : Rows.GrossupErrorsSaid:=over
#print axioms proved
end Go.Proofs.YtlhkojcmcmkmaaaGreat.grossupErrors
