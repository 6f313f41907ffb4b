/- Joined texts: R28 OwnSet R28b R28c. Conditions: as stated. -/
import Derived.Test.YtjncpgbhokjbfaaGreatJ01
import Derived.Test.YtjncpgbhokjbfaaGreatJ08
import Derived.Test.YtjncpgbhokjbfaaGreatJ11
import Derived.Test.YtjncpgbhokjbfaaGreatJ12
import Derived.Test.YtjncpgbhokjbfaaGreatJ13
import Derived.Test.YtjncpgbhokjbfaaGreatJ19
import Derived.Test.YtjncpgbhokjbfaaGreatJ21
namespace Go.Proofs.YtjncpgbhokjbfaaGreat
open Go.RowKit
set_option maxHeartbeats 400000 in
theorem in28_any (n:Int) (w:World) : Calls Tryz.prog 98 #[.int .i64 n] w fun e w'=>e = .returned (.bool (inB n 1000000000))∧w = w':=by
 by_cases h1:0≤n <;> by_cases h2:n≤1000000000
 all_goals
  have hb:inB n 1000000000 = (decide (0≤n) && decide (n≤1000000000)):=by simp [inB]
  have HB:=Lib.hid hb; clear hb
  go_enter Tryz.func98,Tryz.ntmps98
  go_wp2
  go_ret
  exact ⟨by rw [HB.out]; simp [h1,h2],rfl⟩
set_option maxHeartbeats 400000 in
theorem all28_yes (A:Option Addr) (cap:Nat) (xs:List Int) (w:World) (B:Nat) (h:SliceOf encI 1 w B A xs) (hl:xs.length≤1000000) (hx : ∀ x ∈ xs,0≤x∧x≤1000000000) :
  Calls Tryz.prog 99 #[.slice A xs.length cap] w fun e w'=>e = .returned (.bool true)∧w = w':=by
 have HX:=Lib.hid hx; clear hx
 go_enter Tryz.func99,Tryz.ntmps99
 go_wp2
 go_loop [3] (fun i=>∃ k:Nat,k≤xs.length∧i = .int .i64 k) (fun i=>xs.length - (intOf i).toNat)
 case atStart=>exact ⟨0,by omega,rfl⟩
 case round =>
  obtain ⟨k,hk,rfl⟩:=hrel
  by_cases hlt:k < xs.length
  ·
   obtain ⟨b,off,rfl,hb,hc⟩:=h.at_ hlt
   have c0:=hc 0 _ rfl
   simp only [Nat.add_zero,Nat.mul_one] at c0
   have hin:inB xs[k] 1000000000 = true:=inB_iff.2 (HX.out _ (List.getElem_mem hlt))
   clear hc
   go_wp2_with fail
   refine (in28_any _ _).mono ?_
   rintro e w' ⟨rfl,rfl⟩
   rw [hin]
   go_wp2
   go_round
   case rel=>exact ⟨k+1,by omega,by go_num⟩
   case measure=>simp [intOf]; omega
  ·
   go_wp2
   go_ret
   exact ⟨rfl,rfl⟩
set_option maxHeartbeats 1000000 in
theorem valid28_yes (s:SchT) (w:World) (h:SchOk s) : Calls Tryz.prog 97 #[aggSch s] w fun e w'=>e = .returned (.bool true)∧Below w.heap.size w w':=by
 obtain ⟨hn,e0,e1,r0,r1,c0,c1,f0,f1,u0,u1,m0,m1⟩:=h
 have hsz:s.code.size≤maxLen:=by
  simp only [nameB,Bool.and_eq_true,decide_eq_true_eq] at hn
  exact Nat.le_trans hn.1.1.2 (by unfold maxLen; omega)
 have hm:=modeB_yes m0 m1
 unfold aggSch
 go_enter Tryz.func97,Tryz.ntmps97
 go_wp2_with fail
 refine (isName17_any _ _ hsz).mono ?_
 rintro e w1 ⟨rfl,hb1⟩
 have hB:=(Blk.new w 124 #[.string s.code,.int .i64 s.employee,.int .i64 s.employer,.int .i64 s.floor,.int .i64 s.ceiling,.int .i64 s.unit,.int .i64 s.mode,.bool s.deductible]).adv hb1
 have z0:=hB.cell 0
 have z1:=hB.cell 1
 have z2:=hB.cell 2
 have z3:=hB.cell 3
 have z4:=hB.cell 4
 have z5:=hB.cell 5
 have z6:=hB.cell 6
 have z7:=hB.cell 7
 simp only [nqg,nqh,nqi] at z0 z1 z2 z3 z4 z5 z6 z7
 have hbel:=bel_adv (below_new w _) hb1
 rw [hn]
 clear hB hb1
 go_wp2_with fail
 refine (mode2_any _ _).mono ?_
 rintro e w' ⟨rfl,rfl⟩
 rw [hm]
 go_wp2
 go_ret
 exact ⟨rfl,hbel⟩
set_option maxHeartbeats 1000000 in
theorem levy28_any (s:SchT) (b:Int) (w:World) : Calls Tryz.prog 143 #[aggSch s,.int .i64 b] w fun e w'=>e = .returned (aggLv (levyN s b))∧Below w.heap.size w w':=by
 unfold aggSch
 go_enter Tryz.func143,Tryz.ntmps143
 go_wp2_with (go_at_call 141; refine (part2_any _ _ _ _ _ _).mono ?_; rintro e w' ⟨rfl,rfl⟩)
 refine bodyPost_ret (v:=aggLv (levyN s b)) (by simp [results,Tryz.results143,go_sem,aggLv,levyN]) rfl ⟨rfl,?_⟩
 repeat (refine below_put ?_ (by omega) _ _)
 exact bel_alloc (below_new _ _) _
set_option maxHeartbeats 1000000 in
theorem cum28_ok (s:SchT) (A:Option Addr) (cap:Nat) (xs:List Int) (w:World) (h:SliceOf encI 1 w w.heap.size A xs) (hl:xs.length≤54) (hx : ∀ x ∈ xs,0≤x∧x≤8000000000) (hs:SchOk s) :
  Calls Tryz.prog 144 #[aggSch s,.slice A xs.length cap] w fun e w'=>e = .returned (.int .i64 (cumN s xs))∧Below w.heap.size w w':=by
 have HX:=Lib.hid hx; clear hx
 have hc0:=hs.c0
 have hc1:=hs.c1
 have hm1:0≤(xs.length:Int) * s.ceiling:=Int.mul_nonneg (by omega) (by omega)
 have hm2:(xs.length:Int) * s.ceiling≤54 * 1000000000:=Int.mul_le_mul (by omega) hc1 (by omega) (by omega)
 clear hs
 unfold aggSch
 go_enter Tryz.func144,Tryz.ntmps144
 go_wp2
 have hB:=Blk.new w 124 #[.string s.code,.int .i64 s.employee,.int .i64 s.employer,.int .i64 s.floor,.int .i64 s.ceiling,.int .i64 s.unit,.int .i64 s.mode,.bool s.deductible]
 have hS:=h.below (below_new w (.cells #[.string s.code,.int .i64 s.employee,.int .i64 s.employer,.int .i64 s.floor,.int .i64 s.ceiling,.int .i64 s.unit,.int .i64 s.mode,.bool s.deductible] 124))
 have hbel:=below_new w (.cells #[.string s.code,.int .i64 s.employee,.int .i64 s.employer,.int .i64 s.floor,.int .i64 s.ceiling,.int .i64 s.unit,.int .i64 s.mode,.bool s.deductible] 124)
 generalize w.alloc (Obj.cells _ _) = W at hB hS hbel ⊢
 go_loopw [5,6] (fun s' i wr=>∃ k q:Nat,k≤xs.length∧i = .int .i64 k∧s' = .int .i64 (insF s (xs.take k))∧Hid (wr = W.drewN q)) (fun _ i _=>xs.length - (intOf i).toNat)
 case atStart=>exact ⟨0,0,by omega,rfl,rfl,rfl⟩
 case round =>
  obtain ⟨k,q,hk,rfl,rfl,hw⟩:=hrel
  have hB1:Blk wr w.heap.size 124 #[.string s.code,.int .i64 s.employee,.int .i64 s.employer,.int .i64 s.floor,.int .i64 s.ceiling,.int .i64 s.unit,.int .i64 s.mode,.bool s.deductible]:=by rw [hw.out]; exact hB.drewN q
  have hS1:SliceOf encI 1 wr w.heap.size A xs:=by rw [hw.out]; exact hS
  have hbel1:Below w.heap.size w wr:=by rw [hw.out]; exact below_drewN hbel q
  have hb0:=insF_nonneg (s:=s) (l:=xs.take k) (fun x hx=>(HX.out x (List.mem_of_mem_take hx)).1)
  have hb2:=insF_le (s:=s) (l:=xs.take k) (fun x hx=>(HX.out x (List.mem_of_mem_take hx)).1)
  have hb3:=(sumI_bd (l:=xs.take k) (B:=8000000000) (fun x hx=>HX.out x (List.mem_of_mem_take hx))).2
  simp only [List.length_take] at hb3
  have hb1:insF s (xs.take k)≤432000000000:=by omega
  have z0:=hB1.cell 0
  have z1:=hB1.cell 1
  have z2:=hB1.cell 2
  have z3:=hB1.cell 3
  have z4:=hB1.cell 4
  have z5:=hB1.cell 5
  have z6:=hB1.cell 6
  have z7:=hB1.cell 7
  simp only [nqg,nqh,nqi] at z0 z1 z2 z3 z4 z5 z6 z7
  clear hB1 hb2 hb3
  by_cases hlt:k < xs.length
  ·
   obtain ⟨b,off,rfl,hb,hc⟩:=hS1.at_ hlt
   have c0:=hc 0 _ rfl
   simp only [Nat.add_zero,Nat.mul_one] at c0
   have HT:=Lib.hid (insF_take s xs k hlt)
   obtain ⟨x0,x1⟩:=HX.out _ (List.getElem_mem hlt)
   clear hc
   by_cases hf:s.floor≤xs[k]
   ·
    go_wp2
    go_quiet (fail)
    go_wp2
    go_roundw
    case rel=>exact ⟨k+1,q+nq,by omega,by go_num,by rw [HT.out,if_pos hf],by show wr.drewN nq = W.drewN (q+nq); rw [hw.out,World.drewN_drewN]⟩
    case measure=>simp [intOf]; omega
   ·
    go_wp2
    go_quiet (fail)
    go_wp2
    go_roundw
    case rel =>
     have hfin:∃ k' q':Nat,k'≤xs.length∧Value.int .i64 ((k:Int)+1) = .int .i64 k'∧Value.int .i64 (insF s (xs.take k)) = .int .i64 (insF s (xs.take k'))∧Hid (wr.drewN nq = W.drewN q'):=⟨k+1,q+nq,by omega,by go_num,by rw [HT.out,if_neg (by omega)]; congr 1; omega,by show wr.drewN nq = W.drewN (q+nq); rw [hw.out,World.drewN_drewN]⟩
     first | exact hfin | ((repeat apply Exists.intro); exact ⟨hfin,rfl⟩)
    case measure=>simp [intOf]; omega
  ·
   obtain rfl:k = xs.length:=by omega
   rw [List.take_of_length_le (by omega)] at hb0 hb1 ⊢
   go_wp2
   all_goals
    go_ret
    refine ⟨?_,hbel1⟩
    rw [cumN]
    exact congrArg (fun n:Int=>Ending.returned (.int .i64 n)) (by omega)
theorem cum28_n (s:SchT) (A:Option Addr) (n cap : Nat) (xs:List Int) (w:World) (hn:n = xs.length) (h:SliceOf encI 1 w w.heap.size A xs) (hl:xs.length≤54) (hx : ∀ x ∈ xs,0≤x∧x≤8000000000) (hs:SchOk s) :
  Calls Tryz.prog 144 #[.agg #[.string s.code,.int .i64 s.employee,.int .i64 s.employer,.int .i64 s.floor,.int .i64 s.ceiling,.int .i64 s.unit,.int .i64 s.mode,.bool s.deductible],.slice A n cap] w fun e w'=>e = .returned (.int .i64 (cumN s xs))∧Below w.heap.size w w':=by
 subst hn
 exact cum28_ok s A cap xs w h hl hx hs
theorem levy28_n (s:SchT) (b:Int) (w:World) : Calls Tryz.prog 143 #[.agg #[.string s.code,.int .i64 s.employee,.int .i64 s.employer,.int .i64 s.floor,.int .i64 s.ceiling,.int .i64 s.unit,.int .i64 s.mode,.bool s.deductible],.int .i64 b] w fun e w'=>e = .returned (.agg #[.int .i64 (levyN s b).base,.int .i64 (levyN s b).employee,.int .i64 (levyN s b).employer])∧Below w.heap.size w w':=levy28_any s b w
set_option maxRecDepth 100000 in
set_option maxHeartbeats 4000000 in
theorem next28_ok (s:SchT) (A:Option Addr) (cap:Nat) (xs:List Int) (w:World) (h:SliceOf encI 1 w w.heap.size A xs) (hl:xs.length≤54) (hne:0 < xs.length) (hcap:xs.length≤cap) (hx : ∀ x ∈ xs,0≤x∧x≤8000000000) (hs:SchOk s) :
  Calls Tryz.prog 100 #[aggSch s,.slice A xs.length cap] w fun e w'=>e = .returned (aggLv (nextN s xs))∧Below w.heap.size w w':=by
 have HX:=Lib.hid hx; clear hx
 have HS:=Lib.hid hs; clear hs
 have hnil:xs ≠ []:=by intro e; subst e; simp at hne
 have hsz:((0≤(levyN s (cumN s xs)).employee∧(levyN s (cumN s xs)).employee≤60000000000)∧(0≤(levyN s (cumN s xs)).employer∧(levyN s (cumN s xs)).employer≤60000000000)∧(0≤(levyN s (cumN s xs.dropLast)).employee∧(levyN s (cumN s xs.dropLast)).employee≤60000000000)∧(0≤(levyN s (cumN s xs.dropLast)).employer∧(levyN s (cumN s xs.dropLast)).employer≤60000000000)∧(0≤(levyN s (cumN s xs)).base∧(levyN s (cumN s xs)).base≤60000000000)∧(0≤(levyN s (cumN s xs.dropLast)).base∧(levyN s (cumN s xs.dropLast)).base≤60000000000)):=by
  have hx0:∀ x ∈ xs,0≤x:=fun x hx=>(HX.out x hx).1
  obtain ⟨c0,c1⟩:=cumN_bd HS.out hx0 hl
  obtain ⟨d0,d1⟩:=cumN_bd (s:=s) (l:=xs.dropLast) HS.out (fun x hx=>hx0 x ((List.dropLast_sublist xs).subset hx)) (by simp; omega)
  obtain ⟨_,_,f1,f2,f3,f4,f5⟩:=levy_sizes HS.out c0 (by omega:cumN s xs≤500000000000)
  obtain ⟨_,_,g1,g2,g3,g4,g5⟩:=levy_sizes HS.out d0 (by omega:cumN s xs.dropLast≤500000000000)
  rw [f1,g1]
  omega
 have HSZ:=Lib.hid hsz
 clear hsz hnil
 obtain ⟨ab,aoff,rfl,hab,hac⟩:=h.at_ hne
 clear hac
 obtain ⟨m,hm⟩ : ∃ m,xs.length = m:=⟨xs.length,rfl⟩
 have HL:=Lib.hid hl
 have HM:=Lib.hid hm
 rw [hm] at hcap ⊢
 have hm53:m≤54:=by omega
 have hm0:0 < m:=by omega
 clear hm hne hl
 unfold aggSch
 go_enter Tryz.func100,Tryz.ntmps100
 go_wp2_with fail
 have hB:=(Blk.new w 124 #[.string s.code,.int .i64 s.employee,.int .i64 s.employer,.int .i64 s.floor,.int .i64 s.ceiling,.int .i64 s.unit,.int .i64 s.mode,.bool s.deductible]).alloc (.cells #[.int .i64 0,.int .i64 0,.int .i64 0] 126)
 have hR:=Blk.new (w.alloc (.cells #[.string s.code,.int .i64 s.employee,.int .i64 s.employer,.int .i64 s.floor,.int .i64 s.ceiling,.int .i64 s.unit,.int .i64 s.mode,.bool s.deductible] 124)) 126 #[.int .i64 0,.int .i64 0,.int .i64 0]
 have hbel:=bel_alloc (below_new w (.cells #[.string s.code,.int .i64 s.employee,.int .i64 s.employer,.int .i64 s.floor,.int .i64 s.ceiling,.int .i64 s.unit,.int .i64 s.mode,.bool s.deductible] 124)) (.cells #[.int .i64 0,.int .i64 0,.int .i64 0] 126)
 rw [World.size_alloc] at hR
 generalize (w.alloc (Obj.cells #[.string s.code,.int .i64 s.employee,.int .i64 s.employer,.int .i64 s.floor,.int .i64 s.ceiling,.int .i64 s.unit,.int .i64 s.mode,.bool s.deductible] 124)).alloc (Obj.cells #[.int .i64 0,.int .i64 0,.int .i64 0] 126) = W at hB hR hbel ⊢
 have hS:=h.adv hbel
 have hwl:w.heap.size < W.heap.size:=hB.lt
 have hwl2:w.heap.size+1 < W.heap.size:=hR.lt
 have hD:SliceOf encI 1 W W.heap.size (some ⟨ab,aoff,none⟩) xs.dropLast:=by rw [List.dropLast_eq_take]; exact hS.take _
 have HDL:Hid (m - 1 = xs.dropLast.length):=by have:=HM.out; simp [Hid]; omega
 have HXD:Hid (∀ x ∈ xs.dropLast,0≤x∧x≤8000000000):=fun x hx=>HX.out x ((List.dropLast_sublist xs).subset hx)
 have z0:=hB.cell 0
 have z1:=hB.cell 1
 have z2:=hB.cell 2
 have z3:=hB.cell 3
 have z4:=hB.cell 4
 have z5:=hB.cell 5
 have z6:=hB.cell 6
 have z7:=hB.cell 7
 simp only [nqg,nqh,nqi] at z0 z1 z2 z3 z4 z5 z6 z7
 have HS1:=Lib.hid hS
 have HD1:=Lib.hid hD
 clear hS hD h
 have hn4:¬ cap = 0:=by omega
 have hwr:IntKind.i64.wrap ((m:Int) - 1) = (m:Int) - 1:=by rw [IntKind.wrap_i64]; omega
 have hslc:=slice_to ab aoff m cap ((m:Int) - 1) (m - 1) (by omega) (by omega) hn4
 refine wp_region_mix (aE:=?aE) 14 4 (by kernel_rfl) (by kernel_rfl) rfl (by kernel_rfl) (by rfl) ?H ?M
 case H =>
  intro F hF inst
  simp only [List.take_succ_cons,List.take_zero]
  have e0:=BwF.cell (F:=F) (a:=⟨w.heap.size,0,none⟩) (by exact hwl) z0
  have e1:=BwF.cell (F:=F) (a:=⟨w.heap.size,1,none⟩) (by exact hwl) z1
  have e2:=BwF.cell (F:=F) (a:=⟨w.heap.size,2,none⟩) (by exact hwl) z2
  have e3:=BwF.cell (F:=F) (a:=⟨w.heap.size,3,none⟩) (by exact hwl) z3
  have e4:=BwF.cell (F:=F) (a:=⟨w.heap.size,4,none⟩) (by exact hwl) z4
  have e5:=BwF.cell (F:=F) (a:=⟨w.heap.size,5,none⟩) (by exact hwl) z5
  have e6:=BwF.cell (F:=F) (a:=⟨w.heap.size,6,none⟩) (by exact hwl) z6
  have e7:=BwF.cell (F:=F) (a:=⟨w.heap.size,7,none⟩) (by exact hwl) z7
  repeat (first | go_big_quiet_step ((first | (go_at_call 143; exact BwF.call hF _ (levy28_n s _ _)) | with_reducible exact BwF.call hF _ (cum28_n s _ _ _ xs _ HM.out.symm (HS1.out.adv (BwF.h _)) HL.out HX.out HS.out) | with_reducible exact BwF.call hF _ (cum28_n s _ _ _ xs.dropLast _ HDL.out (HD1.out.adv (BwF.h _)) (by rw [← HDL.out]; omega) HXD.out HS.out))))
  refine wpQuiet_nil ?_
  rfl
 case M =>
  intro Q0 hQ0
  refine mix_step [14,15] (by kernel_rfl) (by simp) ?_
  intro w1 hC1 hb1 i hi
  simp only [nqj,nqk,or_false] at hi
  rcases hi with rfl | rfl
  ·
   refine mix_val (.pointer (some ⟨w1.heap.size,0,none⟩)) (w1.alloc (.cells #[.int .i64 0,.int .i64 0,.int .i64 0] 126)) rfl rfl (by go_simp) ⟨bel_alloc hC1 _,?_⟩
   have hA:=Blk.new w1 126 #[.int .i64 0,.int .i64 0,.int .i64 0]
   refine mix_step [15] (by kernel_rfl) (by simp) ?_
   intro w2 hC2 hb2 i hi
   simp only [nqj,nqk,or_false] at hi
   subst hi
   have hA2:=hA.adv hb2
   refine mix_val (.pointer (some ⟨w2.heap.size,0,none⟩)) (w2.alloc (.cells #[.int .i64 0,.int .i64 0,.int .i64 0] 126)) rfl rfl (by go_simp) ⟨bel_alloc hC2 _,?_⟩
   have hA3:=hA2.alloc (.cells #[.int .i64 0,.int .i64 0,.int .i64 0] 126)
   have hB3:=Blk.new w2 126 #[.int .i64 0,.int .i64 0,.int .i64 0]
   have hlt:=hA2.lt
   have hAB:w1.heap.size ≠ w2.heap.size:=by omega
   have hgA:W.heap.size≤w1.heap.size:=hC1.size
   have hgB:W.heap.size≤w2.heap.size:=hC2.size
   clear hA hA2
   refine mix_step [16] (by kernel_rfl) (by simp) ?_
   intro w4 hC4 hb4 i hi
   simp only [nqj,nqk,or_false] at hi
   subst hi
   have hA4:=hA3.adv hb4
   have hB4:=hB3.adv hb4
   have p0:=hA4.cell 0
   have p1:=hA4.cell 1
   have p2:=hA4.cell 2
   simp only [nqg,nqh,nqi] at p0 p1 p2
   have fp0:=hA4.frozen 0
   have fp1:=hA4.frozen 1
   have fp2:=hA4.frozen 2
   refine mix_skip (((w4.setCell ⟨w1.heap.size,0,none⟩ (.int .i64 (levyN s (cumN s xs)).base)).setCell ⟨w1.heap.size,1,none⟩ (.int .i64 (levyN s (cumN s xs)).employee)).setCell ⟨w1.heap.size,2,none⟩ (.int .i64 (levyN s (cumN s xs)).employer)) rfl rfl (by go_simp) ⟨?_,?_⟩
   ·
    exact bel_set (bel_set (bel_set hC4 hgA 0 _) hgA 1 _) hgA 2 _
   have hA5:=hA4.fill (encLv (levyN s (cumN s xs))) rfl
   have hB5:=hB4.farAll (g':=w1.heap.size) (fun e=>hAB e.symm) (encLv (levyN s (cumN s xs))) 0
   simp only [putAll,encLv,Nat.zero_add,Nat.reduceAdd] at hA5 hB5
   clear p0 p1 p2 fp0 fp1 fp2 hA4 hB4 hA3 hB3
   refine mix_step [17] (by kernel_rfl) (by simp) ?_
   intro w5 hC5 hb5 i hi
   simp only [nqj,nqk,or_false] at hi
   subst hi
   have hA6:=hA5.adv hb5
   have hB6:=hB5.adv hb5
   have p0:=hB6.cell 0
   have p1:=hB6.cell 1
   have p2:=hB6.cell 2
   simp only [nqg,nqh,nqi] at p0 p1 p2
   have fp0:=hB6.frozen 0
   have fp1:=hB6.frozen 1
   have fp2:=hB6.frozen 2
   refine mix_skip (((w5.setCell ⟨w2.heap.size,0,none⟩ (.int .i64 (levyN s (cumN s xs.dropLast)).base)).setCell ⟨w2.heap.size,1,none⟩ (.int .i64 (levyN s (cumN s xs.dropLast)).employee)).setCell ⟨w2.heap.size,2,none⟩ (.int .i64 (levyN s (cumN s xs.dropLast)).employer)) rfl rfl (by go_simp) ⟨?_,?_⟩
   ·
    exact bel_set (bel_set (bel_set hC5 hgB 0 _) hgB 1 _) hgB 2 _
   have hB7:=hB6.fill (encLv (levyN s (cumN s xs.dropLast))) rfl
   have hA7:=hA6.farAll (g':=w2.heap.size) hAB (encLv (levyN s (cumN s xs.dropLast))) 0
   simp only [putAll,encLv,Nat.zero_add,Nat.reduceAdd] at hA7 hB7
   clear p0 p1 p2 fp0 fp1 fp2 hA6 hB6 hA5 hB5
   refine mix_end (by kernel_rfl) ?_
   intro w6 hC6 hb6
   have hA8:=hA7.adv hb6
   have hB8:=hB7.adv hb6
   have x0:=hA8.cell 0
   have x1:=hA8.cell 1
   have x2:=hA8.cell 2
   simp only [nqg,nqh,nqi] at x0 x1 x2
   have y0:=hB8.cell 0
   have y1:=hB8.cell 1
   have y2:=hB8.cell 2
   simp only [nqg,nqh,nqi] at y0 y1 y2
   have hR6:=hR.below hC6 hwl2
   have r0:=hR6.cell 0
   have r1:=hR6.cell 1
   have r2:=hR6.cell 2
   simp only [nqg,nqh,nqi] at r0 r1 r2
   have fr0:=hR6.frozen 0
   have fr1:=hR6.frozen 1
   have fr2:=hR6.frozen 2
   apply hQ0
   clear hA8 hB8 hA7 hB7 hb6 hb5 hb4 hC5 hC4 z0 z1 z2 z3 z4 z5 z6 z7
   obtain ⟨⟨u0,u1⟩,⟨u2,u3⟩,⟨u4,u5⟩,⟨u6,u7⟩,⟨u8,u9⟩,u10,u11⟩:=HSZ.out
   go_wp2
   have hres:=hR6.fill (encLv (nextN s xs)) rfl
   have hfin:=below_fill (g:=w.heap.size+1) (by omega) (encLv (nextN s xs)) 0 (bel_adv hbel hC6)
   simp only [putAll,encLv,nextN,subLv,Nat.zero_add,Nat.reduceAdd] at hres hfin
   generalize World.setCell _ _ _ = WW at hres hfin ⊢
   have qq0:=hres.cell 0
   have qq1:=hres.cell 1
   have qq2:=hres.cell 2
   simp only [nqg,nqh,nqi] at qq0 qq1 qq2
   refine bodyPost_ret (v:=aggLv (nextN s xs)) (by simp [results,Tryz.results100,go_sem,qq0,qq1,qq2,aggLv,nextN,subLv]) rfl ⟨rfl,hfin⟩
  ·
   refine mix_val (.pointer (some ⟨w1.heap.size,0,none⟩)) (w1.alloc (.cells #[.int .i64 0,.int .i64 0,.int .i64 0] 126)) rfl rfl (by go_simp) ⟨bel_alloc hC1 _,?_⟩
   have hB:=Blk.new w1 126 #[.int .i64 0,.int .i64 0,.int .i64 0]
   refine mix_step [14] (by kernel_rfl) (by simp) ?_
   intro w2 hC2 hb2 i hi
   simp only [nqj,nqk,or_false] at hi
   subst hi
   have hB2:=hB.adv hb2
   refine mix_val (.pointer (some ⟨w2.heap.size,0,none⟩)) (w2.alloc (.cells #[.int .i64 0,.int .i64 0,.int .i64 0] 126)) rfl rfl (by go_simp) ⟨bel_alloc hC2 _,?_⟩
   have hB3:=hB2.alloc (.cells #[.int .i64 0,.int .i64 0,.int .i64 0] 126)
   have hA3:=Blk.new w2 126 #[.int .i64 0,.int .i64 0,.int .i64 0]
   have hlt:=hB2.lt
   have hAB:w2.heap.size ≠ w1.heap.size:=by omega
   have hgA:W.heap.size≤w2.heap.size:=hC2.size
   have hgB:W.heap.size≤w1.heap.size:=hC1.size
   clear hB hB2
   refine mix_step [16] (by kernel_rfl) (by simp) ?_
   intro w4 hC4 hb4 i hi
   simp only [nqj,nqk,or_false] at hi
   subst hi
   have hA4:=hA3.adv hb4
   have hB4:=hB3.adv hb4
   have p0:=hA4.cell 0
   have p1:=hA4.cell 1
   have p2:=hA4.cell 2
   simp only [nqg,nqh,nqi] at p0 p1 p2
   have fp0:=hA4.frozen 0
   have fp1:=hA4.frozen 1
   have fp2:=hA4.frozen 2
   refine mix_skip (((w4.setCell ⟨w2.heap.size,0,none⟩ (.int .i64 (levyN s (cumN s xs)).base)).setCell ⟨w2.heap.size,1,none⟩ (.int .i64 (levyN s (cumN s xs)).employee)).setCell ⟨w2.heap.size,2,none⟩ (.int .i64 (levyN s (cumN s xs)).employer)) rfl rfl (by go_simp) ⟨?_,?_⟩
   ·
    exact bel_set (bel_set (bel_set hC4 hgA 0 _) hgA 1 _) hgA 2 _
   have hA5:=hA4.fill (encLv (levyN s (cumN s xs))) rfl
   have hB5:=hB4.farAll (g':=w2.heap.size) (fun e=>hAB e.symm) (encLv (levyN s (cumN s xs))) 0
   simp only [putAll,encLv,Nat.zero_add,Nat.reduceAdd] at hA5 hB5
   clear p0 p1 p2 fp0 fp1 fp2 hA4 hB4 hA3 hB3
   refine mix_step [17] (by kernel_rfl) (by simp) ?_
   intro w5 hC5 hb5 i hi
   simp only [nqj,nqk,or_false] at hi
   subst hi
   have hA6:=hA5.adv hb5
   have hB6:=hB5.adv hb5
   have p0:=hB6.cell 0
   have p1:=hB6.cell 1
   have p2:=hB6.cell 2
   simp only [nqg,nqh,nqi] at p0 p1 p2
   have fp0:=hB6.frozen 0
   have fp1:=hB6.frozen 1
   have fp2:=hB6.frozen 2
   refine mix_skip (((w5.setCell ⟨w1.heap.size,0,none⟩ (.int .i64 (levyN s (cumN s xs.dropLast)).base)).setCell ⟨w1.heap.size,1,none⟩ (.int .i64 (levyN s (cumN s xs.dropLast)).employee)).setCell ⟨w1.heap.size,2,none⟩ (.int .i64 (levyN s (cumN s xs.dropLast)).employer)) rfl rfl (by go_simp) ⟨?_,?_⟩
   ·
    exact bel_set (bel_set (bel_set hC5 hgB 0 _) hgB 1 _) hgB 2 _
   have hB7:=hB6.fill (encLv (levyN s (cumN s xs.dropLast))) rfl
   have hA7:=hA6.farAll (g':=w1.heap.size) hAB (encLv (levyN s (cumN s xs.dropLast))) 0
   simp only [putAll,encLv,Nat.zero_add,Nat.reduceAdd] at hA7 hB7
   clear p0 p1 p2 fp0 fp1 fp2 hA6 hB6 hA5 hB5
   refine mix_end (by kernel_rfl) ?_
   intro w6 hC6 hb6
   have hA8:=hA7.adv hb6
   have hB8:=hB7.adv hb6
   have x0:=hA8.cell 0
   have x1:=hA8.cell 1
   have x2:=hA8.cell 2
   simp only [nqg,nqh,nqi] at x0 x1 x2
   have y0:=hB8.cell 0
   have y1:=hB8.cell 1
   have y2:=hB8.cell 2
   simp only [nqg,nqh,nqi] at y0 y1 y2
   have hR6:=hR.below hC6 hwl2
   have r0:=hR6.cell 0
   have r1:=hR6.cell 1
   have r2:=hR6.cell 2
   simp only [nqg,nqh,nqi] at r0 r1 r2
   have fr0:=hR6.frozen 0
   have fr1:=hR6.frozen 1
   have fr2:=hR6.frozen 2
   apply hQ0
   clear hA8 hB8 hA7 hB7 hb6 hb5 hb4 hC5 hC4 z0 z1 z2 z3 z4 z5 z6 z7
   obtain ⟨⟨u0,u1⟩,⟨u2,u3⟩,⟨u4,u5⟩,⟨u6,u7⟩,⟨u8,u9⟩,u10,u11⟩:=HSZ.out
   go_wp2
   have hres:=hR6.fill (encLv (nextN s xs)) rfl
   have hfin:=below_fill (g:=w.heap.size+1) (by omega) (encLv (nextN s xs)) 0 (bel_adv hbel hC6)
   simp only [putAll,encLv,nextN,subLv,Nat.zero_add,Nat.reduceAdd] at hres hfin
   generalize World.setCell _ _ _ = WW at hres hfin ⊢
   have qq0:=hres.cell 0
   have qq1:=hres.cell 1
   have qq2:=hres.cell 2
   simp only [nqg,nqh,nqi] at qq0 qq1 qq2
   refine bodyPost_ret (v:=aggLv (nextN s xs)) (by simp [results,Tryz.results100,go_sem,qq0,qq1,qq2,aggLv,nextN,subLv]) rfl ⟨rfl,hfin⟩
end Go.Proofs.YtjncpgbhokjbfaaGreat
namespace Go.Proofs.YtjncpgbhokjbfaaGreat
open Go.RowKit
theorem row_set {w:World} {base g n cap : Nat} {e:TypeId} {k:Nat} {L:List Value} (h:w.ownsRow base e k (.slice (some ⟨g,0,none⟩) n cap) n L) (i:Nat) (u:Value) :
  (w.setCell ⟨g,i,none⟩ u).ownsRow base e k (.slice (some ⟨g,0,none⟩) n cap) n (L.set i u):=by
 obtain ⟨h1,h2⟩:=h
 refine ⟨by simpa using h1,?_⟩
 rcases h2 with ⟨hv,_⟩ | ⟨g',cap',cur,hv,hb,hg,hn,hm,hs,ht⟩
 ·
  cases hv
 ·
  injection hv with e1 e2 e3
  injection e1 with e1
  injection e1 with e1 _
  subst e1 e3
  refine .inr ⟨g,cap,cur.setIfInBounds i u,rfl,hb,?_,hn,hm,by simpa using hs,?_⟩
  ·
   simp [World.setCell,Array.getElem?_modify,hg]
  ·
   rw [Array.toList_setIfInBounds,List.take_set,ht]
theorem flatMap_set3 {α:Type} {enc:α→List Value} (hk : ∀ x,(enc x).length = 3) (y:α) (a b c : Value) (hy:enc y = [a,b,c]) : ∀ (ys:List α) (j:Nat),j < ys.length→(ys.set j y).flatMap enc = (((ys.flatMap enc).set (j * 3) a).set (j * 3+1) b).set (j * 3+2) c:=by
 intro ys
 induction ys with
 | nil=>intro j hj; simp at hj
 | cons x r ih =>
  intro j hj
  cases j with
  | zero =>
   obtain ⟨x0,x1,x2,hx⟩ : ∃ x0 x1 x2,enc x = [x0,x1,x2]:=by
    have:=hk x
    match hx:enc x,this with
    | [x0,x1,x2],_=>exact ⟨x0,x1,x2,rfl⟩
   simp [hy,hx]
  | succ j =>
   obtain ⟨x0,x1,x2,hx⟩ : ∃ x0 x1 x2,enc x = [x0,x1,x2]:=by
    have:=hk x
    match hx:enc x,this with
    | [x0,x1,x2],_=>exact ⟨x0,x1,x2,rfl⟩
   rw [List.set_cons_succ,List.flatMap_cons,List.flatMap_cons,ih j (by simpa using hj),hx]
   rw [show (j+1) * 3 = j * 3+3 by omega,show j * 3+3+1 = j * 3+1+3 by omega,show j * 3+3+2 = j * 3+2+3 by omega]
   simp [List.set_cons_succ]
theorem flatMap_len3 {α:Type} {enc:α→List Value} (hk : ∀ x,(enc x).length = 3) (ys:List α) : (ys.flatMap enc).length = ys.length * 3:=by
 induction ys with
 | nil=>rfl
 | cons a l ih=>rw [List.flatMap_cons,List.length_append,hk,ih,List.length_cons]; omega
theorem Own.set3 {α:Type} {enc:α→List Value} {e:TypeId} {w:World} {base g cap : Nat} {ys:List α} (hk : ∀ x,(enc x).length = 3) {n:Nat} (hn:n = ys.length) (h:Own enc 3 e w base (.slice (some ⟨g,0,none⟩) n cap) ys) {j:Nat} (hj:j < ys.length) (y:α) (a b c : Value) (hy:enc y = [a,b,c]) :
  Own enc 3 e (((w.setCell ⟨g,j * 3,none⟩ a).setCell ⟨g,j * 3+1,none⟩ b).setCell ⟨g,j * 3+2,none⟩ c) base (.slice (some ⟨g,0,none⟩) n cap) (ys.set j y):=by
 subst hn
 unfold Own
 rw [flatMap_set3 hk y a b c hy ys j hj,List.length_set]
 exact row_set (row_set (row_set h _ _) _ _) _ _
theorem Own.some_ {α:Type} {enc:α→List Value} {k:Nat} {e:TypeId} {w:World} {base:Nat} {v:Value} {ys:List α} (h:Own enc k e w base v ys) (hne:0 < ys.length) : ∃ g cap cur,v = .slice (some ⟨g,0,none⟩) ys.length cap∧base≤g∧Blk w g e cur∧ys.length≤cap∧cap≤maxLen:=by
 rcases h.2 with ⟨_,h0⟩ | ⟨g,cap,cur,rfl,hb,hg,hn,hm,_⟩
 ·
  omega
 ·
  exact ⟨g,cap,cur,rfl,hb,hg,hn,hm⟩
end Go.Proofs.YtjncpgbhokjbfaaGreat
namespace Go.Proofs.YtjncpgbhokjbfaaGreat
open Go.RowKit
theorem made3 (n:Nat) : (madeCells #[Value.int .i64 0,.int .i64 0,.int .i64 0] (n * 3)).toList = (List.replicate n zLv).flatMap encLv:=by
 have e:(List.replicate n zLv).flatMap encLv = List.replicate (n * 3) (Value.int .i64 0):=by
  induction n with
  | zero=>rfl
  | succ n ih=>rw [List.replicate_succ,List.flatMap_cons,ih,show (n+1) * 3 = n * 3+1+1+1 by omega,List.replicate_succ,List.replicate_succ,List.replicate_succ]; rfl
 rw [e,List.eq_replicate_iff]
 refine ⟨by simp [madeCells],fun b hb=>?_⟩
 simp only [madeCells] at hb
 simp at hb
 obtain ⟨a,_,rfl⟩:=hb
 rcases (show a % 3 = 0 ∨ a % 3 = 1 ∨ a % 3 = 2 by omega) with h | h | h <;> simp [h]
theorem make_levies (n:Nat) (hn:n≤1000) (w:World) : (Instr.makeSlice 120 (.int .i64 (n:Int)) (.int .i64 (n:Int))).run Tryz.prog w = .ok (.slice (some ⟨w.heap.size,0,none⟩) n n) (w.alloc (.cells ((List.replicate n zLv).flatMap encLv).toArray 126)):=by
 obtain ⟨i,hi,hz,hs,hb⟩:=info_parts infoLv
 have hr:=run_make (P:=Tryz.prog) w 120 126 i _ Tryz.underlying120 hi hz .i64 .i64 (n:Int) (n:Int) (by omega) (Int.le_refl _) (by rw [hb]; omega) (by omega)
 simp only [Int.toNat_natCast,hs] at hr
 rw [hr,← made3]
 rfl
def divF (v:LevyT) (ws:List Int) (i:Nat) : LevyT:=⟨(allocN v.base ws).getD i 0,(allocN v.employee ws).getD i 0,(allocN v.employer ws).getD i 0⟩
def divTo (v:LevyT) (ws:List Int) (n k : Nat) : List LevyT:=(List.range n).map fun i=>if i < k then divF v ws i else zLv
theorem divTo_len (v:LevyT) (ws:List Int) (n k : Nat) : (divTo v ws n k).length = n:=by simp [divTo]
theorem divTo_zero (v:LevyT) (ws:List Int) (n:Nat) : divTo v ws n 0 = List.replicate n zLv:=by
 rw [List.eq_replicate_iff]
 exact ⟨divTo_len _ _ _ _,fun x hx=>by obtain ⟨i,_,rfl⟩:=List.mem_map.1 hx; simp⟩
theorem divTo_set (v:LevyT) (ws:List Int) (n k : Nat) (hk:k < n) : (divTo v ws n k).set k (divF v ws k) = divTo v ws n (k+1):=by
 apply List.ext_getElem?
 intro i
 rw [List.getElem?_set]
 simp only [divTo,List.length_map,List.length_range,List.getElem?_map]
 by_cases e:k = i
 ·
  subst e
  simp [hk]
 ·
  rw [if_neg e]
  by_cases hi:i < n
  ·
   rw [List.getElem?_range hi]
   simp only [Option.map_some]
   congr 1
   by_cases h1:i < k
   ·
    rw [if_pos h1,if_pos (by omega)]
   ·
    rw [if_neg h1,if_neg (by omega)]
  ·
   rw [List.getElem?_eq_none (by simp; omega)]; rfl
theorem divTo_all (v:LevyT) (ws:List Int) (h:sumI ws ≠ 0) : divTo v ws ws.length ws.length = divN v ws:=by
 rw [divN,if_neg h,divTo]
 apply List.map_congr_left
 intro i hi
 rw [if_pos (by simpa using hi)]
 rfl
end Go.Proofs.YtjncpgbhokjbfaaGreat
namespace Go.Proofs.YtjncpgbhokjbfaaGreat
open Go.RowKit
theorem sumsJ_take (n:Nat) (es:List (List Int × Int)) (k:Nat) (h:k < es.length) : sumsJ n (es.take (k+1)) = addL (sumsJ n (es.take k)) (es[k].1++[es[k].2]):=by
 rw [List.take_succ_eq_append_getElem h,sumsJ,List.foldl_append]; rfl
theorem basesJ_take (es:List (List Int × Int)) (k:Nat) (h:k < es.length) : basesJ (es.take (k+1)) = basesJ (es.take k)++[es[k].2]:=by
 rw [List.take_succ_eq_append_getElem h,basesJ,List.map_append]; rfl
theorem addL_getD (a b : List Int) (i:Nat) (h1:i < a.length) (h2:i < b.length) : (addL a b).getD i 0 = a.getD i 0+b.getD i 0:=by
 simp only [addL,List.getD_eq_getElem?_getD,List.getElem?_zipWith,List.getElem?_eq_getElem h1,List.getElem?_eq_getElem h2]
 rfl
theorem EmpsOk.take {n:Nat} {es:List (List Int × Int)} (h:EmpsOk n es) (k:Nat) : (sumsJ n (es.take k)).length = n+1∧∀ x ∈ sumsJ n (es.take k),0≤x :=
 sumsJ_facts (es.take k) (fun e he=>h.lens e (List.mem_of_mem_take he)) (fun e he=>(h.base e (List.mem_of_mem_take he)).1) (fun e he x hx=>(h.earlier e (List.mem_of_mem_take he) x hx).1) _ (by simp) (by intro x hx; rw [List.eq_of_mem_replicate hx]; omega)
theorem EmpsOk.sums_hi {n:Nat} {es:List (List Int × Int)} (h:EmpsOk n es) : ∀ k,k≤es.length→∀ i,i < n+1→(sumsJ n (es.take k)).getD i 0≤k * 1000000000:=by
 intro k
 induction k with
 | zero =>
  intro _ i hi
  have:(sumsJ n (es.take 0)).getD i 0 = 0:=by
   simp only [List.take_zero,sumsJ,List.foldl_nil,List.getD_eq_getElem?_getD,List.getElem?_replicate]
   split <;> rfl
  omega
 | succ k ih =>
  intro hk i hi
  have h1:=ih (by omega) i hi
  have hl:=(h.take k).1
  have hm:=List.getElem_mem (show k < es.length by omega)
  have he:=h.lens _ hm
  rw [sumsJ_take n es k (by omega),addL_getD _ _ _ (by omega) (by simp; omega)]
  have h2:(es[k].1++[es[k].2]).getD i 0≤1000000000:=by
   rw [List.getD_eq_getElem?_getD]
   cases e:(es[k].1++[es[k].2])[i]? with
   | none=>simp
   | some v =>
    rcases List.mem_append.1 (List.mem_of_getElem? e) with g | g
    ·
     exact (h.earlier _ hm _ g).2
    ·
     simp at g; subst g; exact (h.base _ hm).2
  rw [show ((k+1:Nat) : Int) * 1000000000 = k * 1000000000+1000000000 by omega]
  omega
def rowJ (S x : List Int) (j:Nat) (i:Nat) : Value:=.int .i64 (S.getD i 0+if i < j then x.getD i 0 else 0)
def jointL (s:SchT) (n:Nat) (es:List (List Int × Int)) : List LevyT:=if overJ (jointV s n es) then [] else jointR s n es
def jointE (s:SchT) (n:Nat) (es:List (List Int × Int)) : Int:=if overJ (jointV s n es) then 4 else 0
theorem rowJ_start {w:World} {g:Nat} {S x : List Int} {m:Nat} (h:RowI w g S) (hm:S.length = m) : w.rowIs g 3 m (rowJ S x 0):=by
 subst hm
 exact World.rowIs.congr h (fun i _=>by simp [rowJ])
theorem rowJ_next {w:World} {g m j : Nat} {S x : List Int} (h:w.rowIs g 3 m (rowJ S x j)) : (w.setCell ⟨g,j,none⟩ (.int .i64 (S.getD j 0+x.getD j 0))).rowIs g 3 m (rowJ S x (j+1)):=by
 refine (h.set j _).congr fun i _=>?_
 by_cases e:i = j
 ·
  subst e; rw [if_pos rfl]; simp [rowJ]
 ·
  rw [if_neg e]
  unfold rowJ
  by_cases h1:i < j
  ·
   rw [if_pos h1,if_pos (by omega)]
  ·
   rw [if_neg h1,if_neg (by omega)]
theorem rowJ_end {w:World} {g n : Nat} {S x : List Int} {b:Int} (h:w.rowIs g 3 (n+1) (rowJ S x n)) (hS:S.length = n+1) (hx:x.length = n) : RowI (w.setCell ⟨g,n,none⟩ (.int .i64 (S.getD n 0+b))) g (addL S (x++[b])):=by
 unfold RowI
 have hl:(addL S (x++[b])).length = n+1:=by rw [addL_len]; simp; omega
 rw [hl]
 refine (h.set n _).congr fun i hi=>?_
 rw [addL_getD _ _ _ (by omega) (by simp; omega)]
 by_cases e:i = n
 ·
  subst e
  rw [if_pos rfl]
  have:(x++[b]).getD i 0 = b:=by rw [List.getD_eq_getElem?_getD,List.getElem?_append_right (by omega)]; simp [hx]
  rw [this]
 ·
  rw [if_neg e]
  have:(x++[b]).getD i 0 = x.getD i 0:=by rw [List.getD_eq_getElem?_getD,List.getElem?_append_left (by omega),List.getD_eq_getElem?_getD]
  rw [this,rowJ,if_pos (by omega)]
theorem mapv_get {es : List EmpC} {k : Nat} (h : k < es.length) : (es.map EmpC.v)[k]'(by simpa using h) = (es[k].l, es[k].base) := by simp [EmpC.v]
end Go.Proofs.YtjncpgbhokjbfaaGreat
