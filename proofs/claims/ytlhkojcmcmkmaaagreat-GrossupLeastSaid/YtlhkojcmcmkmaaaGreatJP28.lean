/- Joined texts: P28 P28b. Conditions: as stated. -/
import Derived.Test.YtlhkojcmcmkmaaaGreatJAlc
import Derived.Test.YtlhkojcmcmkmaaaGreatJBox
namespace Go.Proofs.YtlhkojcmcmkmaaaGreat
open Go.RowKit
set_option maxHeartbeats 400000 in
theorem earnP28 (n:Int) (w:World) (h0:0≤n) (h1:n≤1000000000) : Calls Tryz.prog 200 #[.int .i64 n] w fun e w'=>e = .returned (.bool true)∧w = w':=by
 go_enter Tryz.func200,Tryz.ntmps200
 go_wp2
 go_ret
 exact ⟨rfl,rfl⟩
set_option maxHeartbeats 1000000 in
theorem validP28 (s:SchT) (w:World) (h:SchOk s) : Calls Tryz.prog 154 #[.agg #[.string s.code,.int .i64 s.employee,.int .i64 s.employer,.int .i64 s.floor,.int .i64 s.ceiling,.int .i64 s.unit,.int .i64 s.mode,.bool s.deductible]] w fun e w'=>e = .returned (.bool true)∧Below w.heap.size w w':=by
 obtain ⟨hn,e0,e1,r0,r1,c0,c1,f0,f1,u0,u1,m0,m1⟩:=h
 have hsz:s.code.size≤maxLen:=by
  simp only [nameB,Bool.and_eq_true,decide_eq_true_eq] at hn
  exact Nat.le_trans hn.1.1.2 (by unfold maxLen; omega)
 go_enter Tryz.func154,Tryz.ntmps154
 go_wp2_with fail
 refine (isName_any _ _ hsz).mono ?_
 rintro e w1 ⟨rfl,rfl⟩
 rw [hn]
 go_wp2
 go_ret
 exact ⟨rfl,below_new w _⟩
set_option maxRecDepth 100000 in
set_option maxHeartbeats 2000000 in
theorem levyP28 (s:SchT) (b:Int) (w:World) (hs:SchOk s) (h0:0≤b) (h1:b≤500000000000) : Calls Tryz.prog 201 #[.agg #[.string s.code,.int .i64 s.employee,.int .i64 s.employer,.int .i64 s.floor,.int .i64 s.ceiling,.int .i64 s.unit,.int .i64 s.mode,.bool s.deductible],.int .i64 b] w fun e w'=>e = .returned (.tuple #[.agg #[.int .i64 (levyN s b).base,.int .i64 (levyN s b).employee,.int .i64 (levyN s b).employer],.int .i64 0])∧Below w.heap.size w w':=by
 obtain ⟨E1,E2,_⟩:=levy_sizes hs h0 h1
 have HE1:=Lib.hid E1
 have HE2:=Lib.hid E2
 clear hs E1 E2
 have HL:Hid (levyN s b = ⟨b,partN b s.employee 1000000 s.unit s.mode,partN b s.employer 1000000 s.unit s.mode⟩):=rfl
 go_enter Tryz.func201,Tryz.ntmps201
 go_upto_region 1 with fail
 have hB:=(Blk.new w 123 #[.string s.code,.int .i64 s.employee,.int .i64 s.employer,.int .i64 s.floor,.int .i64 s.ceiling,.int .i64 s.unit,.int .i64 s.mode,.bool s.deductible]).alloc (.cells #[.int .i64 0,.int .i64 0,.int .i64 0] 142)
 have hR:=Blk.new (w.alloc (.cells #[.string s.code,.int .i64 s.employee,.int .i64 s.employer,.int .i64 s.floor,.int .i64 s.ceiling,.int .i64 s.unit,.int .i64 s.mode,.bool s.deductible] 123)) 142 #[.int .i64 0,.int .i64 0,.int .i64 0]
 have hbel:=bel_alloc (below_new w (.cells #[.string s.code,.int .i64 s.employee,.int .i64 s.employer,.int .i64 s.floor,.int .i64 s.ceiling,.int .i64 s.unit,.int .i64 s.mode,.bool s.deductible] 123)) (.cells #[.int .i64 0,.int .i64 0,.int .i64 0] 142)
 rw [World.size_alloc] at hR
 generalize (w.alloc (.cells #[.string s.code,.int .i64 s.employee,.int .i64 s.employer,.int .i64 s.floor,.int .i64 s.ceiling,.int .i64 s.unit,.int .i64 s.mode,.bool s.deductible] 123)).alloc (.cells #[.int .i64 0,.int .i64 0,.int .i64 0] 142) = W at hB hR hbel ⊢
 have z0:=hB.cell 0
 have z1:=hB.cell 1
 have z2:=hB.cell 2
 have z3:=hB.cell 3
 have z4:=hB.cell 4
 have z5:=hB.cell 5
 have z6:=hB.cell 6
 have z7:=hB.cell 7
 simp only [nqg,nqh,nqi] at z0 z1 z2 z3 z4 z5 z6 z7
 go_wp2_with fail
 refine (part_any b s.employee 1000000 s.unit s.mode _).mono ?_
 rintro e w1 ⟨rfl,q,rfl⟩
 rw [HE1.out]
 go_wp2_with fail
 refine (part_any b s.employer 1000000 s.unit s.mode _).mono ?_
 rintro e w1 ⟨rfl,q2,rfl⟩
 rw [HE2.out]
 have hR2:=(hR.drewN q).drewN q2
 have hbel2:=below_drewN (below_drewN hbel q) q2
 generalize (W.drewN q).drewN q2 = W2 at hR2 hbel2 ⊢
 clear hB hR hbel z0 z1 z2 z3 z4 z5 z6 z7
 have z0:=hR2.cell 0
 have z1:=hR2.cell 1
 have z2:=hR2.cell 2
 simp only [nqg,nqh,nqi] at z0 z1 z2
 have f0:=hR2.frozen 0
 have f1:=hR2.frozen 1
 have f2:=hR2.frozen 2
 have hl1:=hR2.lt
 generalize partN b s.employee 1000000 s.unit s.mode = p1 at *
 generalize partN b s.employer 1000000 s.unit s.mode = p2 at *
 go_wp2
 have hR3:=hR2.fill [.int .i64 b,.int .i64 p1,.int .i64 p2] rfl
 have hbel3:=below_fill (g:=w.heap.size+1) (Nat.le_succ _) [.int .i64 b,.int .i64 p1,.int .i64 p2] 0 hbel2
 simp only [putAll,Nat.zero_add,Nat.reduceAdd] at hR3 hbel3
 generalize ((W2.setCell ⟨w.heap.size+1,0,none⟩ (.int .i64 b)).setCell ⟨w.heap.size+1,1,none⟩ (.int .i64 p1)).setCell ⟨w.heap.size+1,2,none⟩ (.int .i64 p2) = W3 at hR3 hbel3 ⊢
 have e0:=hR3.cell 0
 have e1:=hR3.cell 1
 have e2:=hR3.cell 2
 simp only [nqg,nqh,nqi] at e0 e1 e2
 refine bodyPost_ret (v:=_) (by simp [results,Tryz.results201,go_sem,e0,e1,e2]; rfl) rfl ⟨by rw [HL.out],hbel3⟩
set_option maxRecDepth 100000 in
set_option maxHeartbeats 1000000 in
theorem cumP28 (s:SchT) (A:Option Addr) (n cap : Nat) (xs:List Int) (w:World) (hn:n = xs.length) (h:SliceOf encI 1 w w.heap.size A xs) (hl:xs.length≤54) (hx : ∀ x ∈ xs,0≤x∧x≤8000000000) (hs:SchOk s) :
  Calls Tryz.prog 202 #[.agg #[.string s.code,.int .i64 s.employee,.int .i64 s.employer,.int .i64 s.floor,.int .i64 s.ceiling,.int .i64 s.unit,.int .i64 s.mode,.bool s.deductible],.slice A n cap] w fun e w'=>e = .returned (.int .i64 (cumN s xs))∧Below w.heap.size w w':=by
 subst hn
 have HX:=Lib.hid hx; clear hx
 have hc0:=hs.c0
 have hc1:=hs.c1
 have hm1:0≤(xs.length:Int) * s.ceiling:=Int.mul_nonneg (by omega) (by omega)
 have hm2:(xs.length:Int) * s.ceiling≤54 * 1000000000:=Int.mul_le_mul (by omega) hc1 (by omega) (by omega)
 clear hs
 go_enter Tryz.func202,Tryz.ntmps202
 go_wp2
 have hB:=Blk.new w 123 #[.string s.code,.int .i64 s.employee,.int .i64 s.employer,.int .i64 s.floor,.int .i64 s.ceiling,.int .i64 s.unit,.int .i64 s.mode,.bool s.deductible]
 have hS:=h.below (below_new w (.cells #[.string s.code,.int .i64 s.employee,.int .i64 s.employer,.int .i64 s.floor,.int .i64 s.ceiling,.int .i64 s.unit,.int .i64 s.mode,.bool s.deductible] 123))
 have hbel:=below_new w (.cells #[.string s.code,.int .i64 s.employee,.int .i64 s.employer,.int .i64 s.floor,.int .i64 s.ceiling,.int .i64 s.unit,.int .i64 s.mode,.bool s.deductible] 123)
 generalize w.alloc (Obj.cells _ _) = W at hB hS hbel ⊢
 have z0:=hB.cell 0
 have z1:=hB.cell 1
 have z2:=hB.cell 2
 have z3:=hB.cell 3
 have z4:=hB.cell 4
 have z5:=hB.cell 5
 have z6:=hB.cell 6
 have z7:=hB.cell 7
 simp only [nqg,nqh,nqi] at z0 z1 z2 z3 z4 z5 z6 z7
 clear hB
 go_loop [5,10] (fun s' i=>∃ k:Nat,k≤xs.length∧i = .int .i64 k∧s' = .int .i64 (insF s (xs.take k))) (fun _ i=>xs.length - (intOf i).toNat)
 case atStart=>exact ⟨0,by omega,rfl,rfl⟩
 case round =>
  obtain ⟨k,hk,rfl,rfl⟩:=hrel
  have hb0:=insF_nonneg (s:=s) (l:=xs.take k) (fun x hx=>(HX.out x (List.mem_of_mem_take hx)).1)
  have hb2:=insF_le (s:=s) (l:=xs.take k) (fun x hx=>(HX.out x (List.mem_of_mem_take hx)).1)
  have hb3:=(sumI_bd (l:=xs.take k) (B:=8000000000) (fun x hx=>HX.out x (List.mem_of_mem_take hx))).2
  simp only [List.length_take] at hb3
  have hb1:insF s (xs.take k)≤432000000000:=by omega
  clear hb2 hb3
  by_cases hlt:k < xs.length
  ·
   obtain ⟨b,off,rfl,hb,hc⟩:=hS.at_ hlt
   have c0:=hc 0 _ rfl
   simp only [Nat.add_zero,Nat.mul_one] at c0
   have HT:=Lib.hid (insF_take s xs k hlt)
   obtain ⟨x0,x1⟩:=HX.out _ (List.getElem_mem hlt)
   clear hc
   by_cases hf:s.floor≤xs[k]
   ·
    go_wp2
    go_round
    case rel=>exact ⟨k+1,by omega,by go_num,by rw [HT.out,if_pos hf]⟩
    case measure=>simp [intOf]; omega
   ·
    go_wp2
    go_round
    case rel =>
     have hfin:∃ k':Nat,k'≤xs.length∧Value.int .i64 ((k:Int)+1) = .int .i64 k'∧Value.int .i64 (insF s (xs.take k)) = .int .i64 (insF s (xs.take k')):=⟨k+1,by omega,by go_num,by rw [HT.out,if_neg (by omega)]; congr 1; omega⟩
     first | exact hfin | ((repeat apply Exists.intro); exact ⟨hfin,rfl⟩)
    case measure=>simp [intOf]; omega
  ·
   obtain rfl:k = xs.length:=by omega
   rw [List.take_of_length_le (by omega)] at hb0 hb1 ⊢
   go_wp2
   all_goals
    go_ret
    refine ⟨?_,hbel⟩
    rw [cumN]
    exact congrArg (fun n:Int=>Ending.returned (.int .i64 n)) (by (repeat' split) <;> omega)
set_option maxRecDepth 100000 in
set_option maxHeartbeats 1000000 in
theorem fieldsP28 (g o : Nat) (w:World) : Calls Tryz.prog 203 #[.pointer (some ⟨g,o,none⟩)] w fun e w'=>e = .returned (.agg #[.pointer (some ⟨g,o,none⟩),.pointer (some ⟨g,o+1,none⟩),.pointer (some ⟨g,o+2,none⟩)])∧Below w.heap.size w w':=by
 go_enter Tryz.func203,Tryz.ntmps203
 go_upto_region 1 with fail
 have hB:=Blk.new w 210 #[.pointer none,.pointer none,.pointer none]
 have hbel:=below_new w (.cells #[.pointer none,.pointer none,.pointer none] 210)
 generalize w.alloc (Obj.cells _ _) = W at hB hbel ⊢
 have hge:w.heap.size≤w.heap.size:=Nat.le_refl _
 refine wp_region_fin (aE:=?aE1) [0,1,2,3,4,5,6,7,8,9] 10 (by kernel_rfl) (by kernel_rfl) rfl (by kernel_rfl) (by rfl) (by kernel_rfl) (by kernel_rfl) rfl rfl rfl ?H1 ?M1
 case H1 =>
  intro F hF inst
  simp only [M3.opsAt,List.getElem?_toArray,List.getElem?_cons_zero,List.getElem?_cons_succ]
  repeat (first | go_big_quiet_step (first | fail) | quiet_step (first | fail))
  refine wpQuiet_nil ?_
  rfl
 case M1 =>
  intro w1 hb1
  have hB1:=hB.adv hb1
  have z0:=hB1.cell 0
  have z1:=hB1.cell 1
  have z2:=hB1.cell 2
  simp only [nqg,nqh,nqi] at z0 z1 z2
  have f0:=hB1.frozen 0
  have f1:=hB1.frozen 1
  have f2:=hB1.frozen 2
  have hl1:=hB1.lt
  have hB2:=hB1.fill [.pointer (some ⟨g,o,none⟩),.pointer (some ⟨g,o+1,none⟩),.pointer (some ⟨g,o+2,none⟩)] rfl
  have hb2:=below_fill (g:=w.heap.size) hge [.pointer (some ⟨g,o,none⟩),.pointer (some ⟨g,o+1,none⟩),.pointer (some ⟨g,o+2,none⟩)] 0 (hbel.trans (hb1.mono hbel.size))
  refine ⟨putAll w1 w.heap.size 0 [.pointer (some ⟨g,o,none⟩),.pointer (some ⟨g,o+1,none⟩),.pointer (some ⟨g,o+2,none⟩)],by simp only [putAll,Nat.zero_add,Nat.reduceAdd]; go_simp,?_⟩
  generalize putAll w1 w.heap.size 0 _ = w2 at hB2 hb2 ⊢
  go_wp2
  refine bodyPost_ret (results_blk Tryz.results203 rfl hB2 Tryz.underlying210 rfl (by kernel_rfl)) rfl ?_
  exact ⟨rfl,hb2⟩
theorem idx3_0 (a b c : Addr) (w:World) : (Instr.index 210 (.agg #[.pointer (some a),.pointer (some b),.pointer (some c)]) (.int .i64 0)).run Tryz.prog w = .ok (.pointer (some a)) w:=by kernel_rfl
theorem idx3_1 (a b c : Addr) (w:World) : (Instr.index 210 (.agg #[.pointer (some a),.pointer (some b),.pointer (some c)]) (.int .i64 1)).run Tryz.prog w = .ok (.pointer (some b)) w:=by kernel_rfl
theorem idx3_2 (a b c : Addr) (w:World) : (Instr.index 210 (.agg #[.pointer (some a),.pointer (some b),.pointer (some c)]) (.int .i64 2)).run Tryz.prog w = .ok (.pointer (some c)) w:=by kernel_rfl
end Go.Proofs.YtlhkojcmcmkmaaaGreat
namespace Go.Proofs.YtlhkojcmcmkmaaaGreat
open Go.RowKit
set_option maxRecDepth 100000 in
set_option maxHeartbeats 4000000 in
theorem lastP28 (s:SchT) (A:Option Addr) (cap:Nat) (xs:List Int) (w:World) (h:SliceOf encI 1 w w.heap.size A xs) (hne:xs ≠ []) (hl:xs.length≤54) (hcap:xs.length≤cap) (hx : ∀ x ∈ xs,0≤x∧x≤8000000000) (hs:SchOk s) :
  Calls Tryz.prog 162 #[.agg #[.string s.code,.int .i64 s.employee,.int .i64 s.employer,.int .i64 s.floor,.int .i64 s.ceiling,.int .i64 s.unit,.int .i64 s.mode,.bool s.deductible],.slice A xs.length cap] w fun e w'=>e = .returned (.tuple #[.agg #[.int .i64 (nextN s xs).base,.int .i64 (nextN s xs).employee,.int .i64 (nextN s xs).employer],.int .i64 0])∧Below w.heap.size w w':=by
 have HX:=Lib.hid hx
 have HS:=Lib.hid hs
 have hnil:0 < xs.length:=List.length_pos_iff.2 hne
 obtain ⟨c0,c1⟩:=cumN_bd hs (fun x hx'=>(hx x hx').1) hl
 obtain ⟨d0,d1⟩:=cumN_bd (l:=xs.dropLast) hs (fun x hx'=>(hx x ((List.dropLast_sublist xs).subset hx')).1) (by simp; omega)
 obtain ⟨a8,a9,a1,a2,a3,a4,a5⟩:=levy_sizes hs c0 (by omega)
 obtain ⟨b8,b9,b1,b2,b3,b4,b5⟩:=levy_sizes hs d0 (by omega)
 have k0:0≤(levyN s (cumN s xs)).base∧(levyN s (cumN s xs)).base≤54000000000:=by rw [a1]; omega
 have k1:0≤(levyN s (cumN s xs.dropLast)).base∧(levyN s (cumN s xs.dropLast)).base≤54000000000:=by rw [b1]; omega
 obtain ⟨k0,k2⟩:=k0
 obtain ⟨k1,k3⟩:=k1
 clear a1 b1 a8 a9 b8 b9
 have HN:Hid (nextN s xs = subLv (levyN s (cumN s xs)) (levyN s (cumN s xs.dropLast))):=rfl
 have HLV:Hid (∀ (n:Int) (w:World),0≤n→n≤54000000000→Calls Tryz.prog 201 #[.agg #[.string s.code,.int .i64 s.employee,.int .i64 s.employer,.int .i64 s.floor,.int .i64 s.ceiling,.int .i64 s.unit,.int .i64 s.mode,.bool s.deductible],.int .i64 n] w fun e w'=>e = .returned (.tuple #[.agg #[.int .i64 (levyN s n).base,.int .i64 (levyN s n).employee,.int .i64 (levyN s n).employer],.int .i64 0])∧Below w.heap.size w w'):=fun n w h0 h1=>levyP28 s n w hs h0 (by omega)
 clear hx hs
 obtain ⟨ab,aoff,rfl,hab,hac⟩:=h.at_ hnil
 clear hac
 obtain ⟨m,hm⟩ : ∃ m,xs.length = m:=⟨xs.length,rfl⟩
 have HL:=Lib.hid hl
 have HM:=Lib.hid hm
 rw [hm] at hcap hnil ⊢
 have hm53:m≤54:=by omega
 clear hm hne hl
 go_enter Tryz.func162,Tryz.ntmps162
 go_upto_region 1 with fail
 have hB:=(Blk.new w 123 #[.string s.code,.int .i64 s.employee,.int .i64 s.employer,.int .i64 s.floor,.int .i64 s.ceiling,.int .i64 s.unit,.int .i64 s.mode,.bool s.deductible]).alloc (.cells #[.int .i64 0,.int .i64 0,.int .i64 0] 142)
 have hR:=Blk.new (w.alloc (.cells #[.string s.code,.int .i64 s.employee,.int .i64 s.employer,.int .i64 s.floor,.int .i64 s.ceiling,.int .i64 s.unit,.int .i64 s.mode,.bool s.deductible] 123)) 142 #[.int .i64 0,.int .i64 0,.int .i64 0]
 have hbel:=bel_alloc (below_new w (.cells #[.string s.code,.int .i64 s.employee,.int .i64 s.employer,.int .i64 s.floor,.int .i64 s.ceiling,.int .i64 s.unit,.int .i64 s.mode,.bool s.deductible] 123)) (.cells #[.int .i64 0,.int .i64 0,.int .i64 0] 142)
 rw [World.size_alloc] at hR
 generalize (w.alloc (.cells #[.string s.code,.int .i64 s.employee,.int .i64 s.employer,.int .i64 s.floor,.int .i64 s.ceiling,.int .i64 s.unit,.int .i64 s.mode,.bool s.deductible] 123)).alloc (.cells #[.int .i64 0,.int .i64 0,.int .i64 0] 142) = W at hB hR hbel ⊢
 have hS:=h.adv hbel
 have hwl:w.heap.size < W.heap.size:=hB.lt
 have hwl2:w.heap.size+1 < W.heap.size:=hR.lt
 have z0:=hB.cell 0
 have z1:=hB.cell 1
 have z2:=hB.cell 2
 have z3:=hB.cell 3
 have z4:=hB.cell 4
 have z5:=hB.cell 5
 have z6:=hB.cell 6
 have z7:=hB.cell 7
 simp only [nqg,nqh,nqi] at z0 z1 z2 z3 z4 z5 z6 z7
 have HS1:=Lib.hid hS
 clear hS
 have HCU:Hid (∀ w',Below W.heap.size W w'→Calls Tryz.prog 202 #[.agg #[.string s.code,.int .i64 s.employee,.int .i64 s.employer,.int .i64 s.floor,.int .i64 s.ceiling,.int .i64 s.unit,.int .i64 s.mode,.bool s.deductible],.slice (some ⟨ab,aoff,none⟩) m cap] w' fun e w''=>e = .returned (.int .i64 (cumN s xs))∧Below w'.heap.size w' w''):=fun w' hb=>cumP28 s _ _ _ xs w' HM.out.symm (HS1.out.adv hb) HL.out HX.out HS.out
 generalize cumN s xs = cn at *
 refine wp_region_box1 (aE:=?aE1) (t:=142) (zs:=#[.int .i64 0,.int .i64 0,.int .i64 0]) [0,1,2,3,4,5,6,7] 8 9 10 #[.int .i64 (levyN s cn).base,.int .i64 (levyN s cn).employee,.int .i64 (levyN s cn).employer] (.int .i64 0) (by kernel_rfl) (by kernel_rfl) rfl (by kernel_rfl) (by kernel_rfl) (by rfl) (by kernel_rfl) (by kernel_rfl) (by kernel_rfl) (by kernel_rfl) rfl rfl rfl rfl rfl rfl rfl rfl rfl rfl rfl (fun _ _=>by go_simp) rfl (by kernel_rfl) rfl ?H1 ?E1 ?M1
 case H1 =>
  intro F hF inst
  simp only [M3.opsAt,List.getElem?_toArray,List.getElem?_cons_zero,List.getElem?_cons_succ]
  have e0:=BwC.cellB (F:=F) (a:=⟨w.heap.size,0,none⟩) (by exact hwl) z0
  have e1:=BwC.cellB (F:=F) (a:=⟨w.heap.size,1,none⟩) (by exact hwl) z1
  have e2:=BwC.cellB (F:=F) (a:=⟨w.heap.size,2,none⟩) (by exact hwl) z2
  have e3:=BwC.cellB (F:=F) (a:=⟨w.heap.size,3,none⟩) (by exact hwl) z3
  have e4:=BwC.cellB (F:=F) (a:=⟨w.heap.size,4,none⟩) (by exact hwl) z4
  have e5:=BwC.cellB (F:=F) (a:=⟨w.heap.size,5,none⟩) (by exact hwl) z5
  have e6:=BwC.cellB (F:=F) (a:=⟨w.heap.size,6,none⟩) (by exact hwl) z6
  have e7:=BwC.cellB (F:=F) (a:=⟨w.heap.size,7,none⟩) (by exact hwl) z7
  repeat (first | go_big_quiet_step (first | (with_reducible exact BwC.call (stable_below _ _ (Nat.le_refl _)) hF _ (HCU.out _ (BwC.h _))) | (with_reducible exact BwC.call (stable_below _ _ (Nat.le_refl _)) hF _ (HLV.out _ _ c0 c1))) | quiet_step (first | (with_reducible exact BwC.call (stable_below _ _ (Nat.le_refl _)) hF _ (HCU.out _ (BwC.h _))) | (with_reducible exact BwC.call (stable_below _ _ (Nat.le_refl _)) hF _ (HLV.out _ _ c0 c1))))
  refine wpQuiet_nil ?_
  rfl
 case E1=>exact fun _=>⟨rfl,rfl,rfl⟩
 case M1 =>
  intro g1 w1 hg1 hG1 hb1
  try simp only [Act.put,List.setIfInBounds_toArray,List.set_cons_succ,List.set_cons_zero]
  have hB1:=hB.adv hb1
  have hR1:=hR.adv hb1
  have hbel1:=bel_adv hbel hb1
  have hbs1:=hb1.size
  have hwl1:w.heap.size < w1.heap.size:=by omega
  have hD1:SliceOf encI 1 w1 w1.heap.size (some ⟨ab,aoff,none⟩) xs.dropLast:=by rw [List.dropLast_eq_take]; exact (HS1.out.adv hb1).take _
  have HDL:Hid (m - 1 = xs.dropLast.length):=by have:=HM.out; simp [Hid]; omega
  have HXD:Hid (∀ x ∈ xs.dropLast,0≤x∧x≤8000000000):=fun x hx=>HX.out x ((List.dropLast_sublist xs).subset hx)
  have HD2:Hid (∀ w',Below w1.heap.size w1 w'→Calls Tryz.prog 202 #[.agg #[.string s.code,.int .i64 s.employee,.int .i64 s.employer,.int .i64 s.floor,.int .i64 s.ceiling,.int .i64 s.unit,.int .i64 s.mode,.bool s.deductible],.slice (some ⟨ab,aoff,none⟩) (m - 1) cap] w' fun e w''=>e = .returned (.int .i64 (cumN s xs.dropLast))∧Below w'.heap.size w' w''):=fun w' hb=>cumP28 s _ _ _ xs.dropLast w' HDL.out (hD1.adv hb) (by rw [← HDL.out]; omega) HXD.out HS.out
  have hn4:¬ cap = 0:=by omega
  have hwr:IntKind.i64.wrap ((m:Int) - 1) = (m:Int) - 1:=by rw [IntKind.wrap_i64]; omega
  have hslc:=slice_to ab aoff m cap ((m:Int) - 1) (m - 1) (by omega) (by omega) hn4
  clear hB hR hbel hb1 z0 z1 z2 z3 z4 z5 z6 z7 HCU hD1
  generalize cumN s xs.dropLast = dn at *
  have z0:=hB1.cell 0
  have z1:=hB1.cell 1
  have z2:=hB1.cell 2
  have z3:=hB1.cell 3
  have z4:=hB1.cell 4
  have z5:=hB1.cell 5
  have z6:=hB1.cell 6
  have z7:=hB1.cell 7
  simp only [nqg,nqh,nqi] at z0 z1 z2 z3 z4 z5 z6 z7
  go_upto_region 4 with fail
  refine wp_region_box1 (aE:=?aE2) (t:=142) (zs:=#[.int .i64 0,.int .i64 0,.int .i64 0]) [0,1,2,3,4,5,6,7,8,9,10,11] 12 13 14 #[.int .i64 (levyN s dn).base,.int .i64 (levyN s dn).employee,.int .i64 (levyN s dn).employer] (.int .i64 0) (by kernel_rfl) (by kernel_rfl) rfl (by kernel_rfl) (by kernel_rfl) (by rfl) (by kernel_rfl) (by kernel_rfl) (by kernel_rfl) (by kernel_rfl) rfl rfl rfl rfl rfl rfl rfl rfl rfl rfl rfl (fun _ _=>by go_simp) rfl (by kernel_rfl) rfl ?H2 ?E2 ?M2
  case H2 =>
   intro F hF inst
   simp only [M3.opsAt,List.getElem?_toArray,List.getElem?_cons_zero,List.getElem?_cons_succ]
   have e0:=BwC.cellB (F:=F) (a:=⟨w.heap.size,0,none⟩) (by exact hwl1) z0
   have e1:=BwC.cellB (F:=F) (a:=⟨w.heap.size,1,none⟩) (by exact hwl1) z1
   have e2:=BwC.cellB (F:=F) (a:=⟨w.heap.size,2,none⟩) (by exact hwl1) z2
   have e3:=BwC.cellB (F:=F) (a:=⟨w.heap.size,3,none⟩) (by exact hwl1) z3
   have e4:=BwC.cellB (F:=F) (a:=⟨w.heap.size,4,none⟩) (by exact hwl1) z4
   have e5:=BwC.cellB (F:=F) (a:=⟨w.heap.size,5,none⟩) (by exact hwl1) z5
   have e6:=BwC.cellB (F:=F) (a:=⟨w.heap.size,6,none⟩) (by exact hwl1) z6
   have e7:=BwC.cellB (F:=F) (a:=⟨w.heap.size,7,none⟩) (by exact hwl1) z7
   repeat (first | go_big_quiet_step (first | (with_reducible exact BwC.call (stable_below _ _ (Nat.le_refl _)) hF _ (HD2.out _ (BwC.h _))) | (with_reducible exact BwC.call (stable_below _ _ (Nat.le_refl _)) hF _ (HLV.out _ _ d0 d1))) | quiet_step (first | (with_reducible exact BwC.call (stable_below _ _ (Nat.le_refl _)) hF _ (HD2.out _ (BwC.h _))) | (with_reducible exact BwC.call (stable_below _ _ (Nat.le_refl _)) hF _ (HLV.out _ _ d0 d1))))
   refine wpQuiet_nil ?_
   rfl
  case E2=>exact fun _=>⟨rfl,rfl,rfl⟩
  case M2 =>
   intro g2 w2 hg2 hG2 hb2
   try simp only [Act.put,List.setIfInBounds_toArray,List.set_cons_succ,List.set_cons_zero]
   have hG12:=hG1.adv hb2
   have hR2:=hR1.adv hb2
   have hbel2:=bel_adv hbel1 hb2
   have hg12:g1 ≠ g2:=by have:=hG1.lt; omega
   have hgr:w.heap.size+1 ≠ g1:=by omega
   have hgr2:w.heap.size+1 ≠ g2:=by omega
   have hge1:w.heap.size≤g1:=by omega
   clear hB1 hR1 hbel1 hb2 z0 z1 z2 z3 z4 z5 z6 z7 hslc hwr HD2 HLV HS1 h hG1
   go_wp2_with fail
   refine (fieldsP28 g2 0 _).mono ?_
   rintro e w3 ⟨rfl,hb3⟩
   have hA0:=hG12.adv hb3
   have hC0:=hG2.adv hb3
   have hD0:=hR2.adv hb3
   have hE0:=bel_adv hbel2 hb3
   clear hG12 hG2 hR2 hbel2 hb3
   have hi0:=fun w:World=>idx3_0 ⟨g1,0,none⟩ ⟨g1,1,none⟩ ⟨g1,2,none⟩ w
   have hj0:=fun w:World=>idx3_0 ⟨g2,0,none⟩ ⟨g2,1,none⟩ ⟨g2,2,none⟩ w
   have hi1:=fun w:World=>idx3_1 ⟨g1,0,none⟩ ⟨g1,1,none⟩ ⟨g1,2,none⟩ w
   have hj1:=fun w:World=>idx3_1 ⟨g2,0,none⟩ ⟨g2,1,none⟩ ⟨g2,2,none⟩ w
   have hi2:=fun w:World=>idx3_2 ⟨g1,0,none⟩ ⟨g1,1,none⟩ ⟨g1,2,none⟩ w
   have hj2:=fun w:World=>idx3_2 ⟨g2,0,none⟩ ⟨g2,1,none⟩ ⟨g2,2,none⟩ w
   go_wp2
   refine wp_loop_rounds 4 ?_
   rw [rounds_succ]
   go_upto_region 10 with fail
   have zz0:=hA0.cell 0
   have yy0:=hC0.cell 0
   simp only [nqg,nqh] at zz0 yy0
   have hla0:=hA0.lt
   have hlc0:=hC0.lt
   refine wp_region_fin (aE:=?aE10) [0,1,2,3,4,5,6,7,8,9] 10 (by kernel_rfl) (by kernel_rfl) rfl (by kernel_rfl) (by rfl) (by kernel_rfl) (by kernel_rfl) rfl rfl rfl ?H10 ?M10
   case H10 =>
    intro F hF inst
    simp only [M3.opsAt,List.getElem?_toArray,List.getElem?_cons_zero,List.getElem?_cons_succ]
    have e0:=BwC.cellB (F:=F) (a:=⟨g1,0,none⟩) (by exact hla0) zz0
    have d0:=BwC.cellB (F:=F) (a:=⟨g2,0,none⟩) (by exact hlc0) yy0
    repeat (first | go_big_quiet_step (first | (with_reducible exact BwC.call (stable_below _ _ (Nat.le_refl _)) hF _ (fieldsP28 g1 0 _))) | quiet_step (first | (with_reducible exact BwC.call (stable_below _ _ (Nat.le_refl _)) hF _ (fieldsP28 g1 0 _))))
    refine wpQuiet_nil ?_
    rfl
   case M10 =>
    intro u0 hu0
    have hX:=hA0.adv hu0
    have hY:=hC0.adv hu0
    have hZ:=hD0.adv hu0
    have hV:=bel_adv hE0 hu0
    have x0:=hX.cell 0
    simp only [nqg,nqh] at x0
    have f0:=hX.frozen 0
    refine ⟨u0.setCell ⟨g1,0,none⟩ (.int .i64 ((levyN s cn).base - (levyN s dn).base)),by go_simp,?_⟩
    have hA1:=hX.set_ 0 (.int .i64 ((levyN s cn).base - (levyN s dn).base))
    simp only [List.setIfInBounds_toArray,List.set_cons_zero] at hA1
    have hC1:=hY.far (p:=⟨g1,0,none⟩) (fun e=>hg12 e.symm) (.int .i64 ((levyN s cn).base - (levyN s dn).base))
    have hD1:=hZ.far (p:=⟨g1,0,none⟩) hgr (.int .i64 ((levyN s cn).base - (levyN s dn).base))
    have hE1:=bel_set hV hge1 0 (.int .i64 ((levyN s cn).base - (levyN s dn).base))
    generalize u0.setCell ⟨g1,0,none⟩ (.int .i64 ((levyN s cn).base - (levyN s dn).base)) = v1 at hA1 hC1 hD1 hE1 ⊢
    clear hX hY hZ hV x0 f0 hu0 hA0 hC0 hD0 hE0 zz0 yy0 hla0 hlc0
    go_wp2
    rw [rounds_succ]
    go_upto_region 10 with fail
    have zz1:=hA1.cell 1
    have yy1:=hC1.cell 1
    simp only [nqg,nqh,nqi] at zz1 yy1
    have hla1:=hA1.lt
    have hlc1:=hC1.lt
    refine wp_region_fin (aE:=?aE11) [0,1,2,3,4,5,6,7,8,9] 10 (by kernel_rfl) (by kernel_rfl) rfl (by kernel_rfl) (by rfl) (by kernel_rfl) (by kernel_rfl) rfl rfl rfl ?H11 ?M11
    case H11 =>
     intro F hF inst
     simp only [M3.opsAt,List.getElem?_toArray,List.getElem?_cons_zero,List.getElem?_cons_succ]
     have e1:=BwC.cellB (F:=F) (a:=⟨g1,1,none⟩) (by exact hla1) zz1
     have d1:=BwC.cellB (F:=F) (a:=⟨g2,1,none⟩) (by exact hlc1) yy1
     repeat (first | go_big_quiet_step (first | (with_reducible exact BwC.call (stable_below _ _ (Nat.le_refl _)) hF _ (fieldsP28 g1 0 _))) | quiet_step (first | (with_reducible exact BwC.call (stable_below _ _ (Nat.le_refl _)) hF _ (fieldsP28 g1 0 _))))
     refine wpQuiet_nil ?_
     rfl
    case M11 =>
     intro u1 hu1
     have hX:=hA1.adv hu1
     have hY:=hC1.adv hu1
     have hZ:=hD1.adv hu1
     have hV:=bel_adv hE1 hu1
     have x1:=hX.cell 1
     simp only [nqg,nqh,nqi] at x1
     have f1:=hX.frozen 1
     refine ⟨u1.setCell ⟨g1,1,none⟩ (.int .i64 ((levyN s cn).employee - (levyN s dn).employee)),by go_simp,?_⟩
     have hA2:=hX.set_ 1 (.int .i64 ((levyN s cn).employee - (levyN s dn).employee))
     simp only [List.setIfInBounds_toArray,List.set_cons_zero,List.set_cons_succ] at hA2
     have hC2:=hY.far (p:=⟨g1,1,none⟩) (fun e=>hg12 e.symm) (.int .i64 ((levyN s cn).employee - (levyN s dn).employee))
     have hD2:=hZ.far (p:=⟨g1,1,none⟩) hgr (.int .i64 ((levyN s cn).employee - (levyN s dn).employee))
     have hE2:=bel_set hV hge1 1 (.int .i64 ((levyN s cn).employee - (levyN s dn).employee))
     generalize u1.setCell ⟨g1,1,none⟩ (.int .i64 ((levyN s cn).employee - (levyN s dn).employee)) = v2 at hA2 hC2 hD2 hE2 ⊢
     clear hX hY hZ hV x1 f1 hu1 hA1 hC1 hD1 hE1 zz1 yy1 hla1 hlc1
     go_wp2
     rw [rounds_succ]
     go_upto_region 10 with fail
     have zz2:=hA2.cell 2
     have yy2:=hC2.cell 2
     simp only [nqg,nqh,nqi] at zz2 yy2
     have hla2:=hA2.lt
     have hlc2:=hC2.lt
     refine wp_region_fin (aE:=?aE12) [0,1,2,3,4,5,6,7,8,9] 10 (by kernel_rfl) (by kernel_rfl) rfl (by kernel_rfl) (by rfl) (by kernel_rfl) (by kernel_rfl) rfl rfl rfl ?H12 ?M12
     case H12 =>
      intro F hF inst
      simp only [M3.opsAt,List.getElem?_toArray,List.getElem?_cons_zero,List.getElem?_cons_succ]
      have e2:=BwC.cellB (F:=F) (a:=⟨g1,2,none⟩) (by exact hla2) zz2
      have d2:=BwC.cellB (F:=F) (a:=⟨g2,2,none⟩) (by exact hlc2) yy2
      repeat (first | go_big_quiet_step (first | (with_reducible exact BwC.call (stable_below _ _ (Nat.le_refl _)) hF _ (fieldsP28 g1 0 _))) | quiet_step (first | (with_reducible exact BwC.call (stable_below _ _ (Nat.le_refl _)) hF _ (fieldsP28 g1 0 _))))
      refine wpQuiet_nil ?_
      rfl
     case M12 =>
      intro u2 hu2
      have hX:=hA2.adv hu2
      have hY:=hC2.adv hu2
      have hZ:=hD2.adv hu2
      have hV:=bel_adv hE2 hu2
      have x2:=hX.cell 2
      simp only [nqg,nqh,nqi] at x2
      have f2:=hX.frozen 2
      refine ⟨u2.setCell ⟨g1,2,none⟩ (.int .i64 ((levyN s cn).employer - (levyN s dn).employer)),by go_simp,?_⟩
      have hA3:=hX.set_ 2 (.int .i64 ((levyN s cn).employer - (levyN s dn).employer))
      simp only [List.setIfInBounds_toArray,List.set_cons_zero,List.set_cons_succ] at hA3
      have hC3:=hY.far (p:=⟨g1,2,none⟩) (fun e=>hg12 e.symm) (.int .i64 ((levyN s cn).employer - (levyN s dn).employer))
      have hD3:=hZ.far (p:=⟨g1,2,none⟩) hgr (.int .i64 ((levyN s cn).employer - (levyN s dn).employer))
      have hE3:=bel_set hV hge1 2 (.int .i64 ((levyN s cn).employer - (levyN s dn).employer))
      generalize u2.setCell ⟨g1,2,none⟩ (.int .i64 ((levyN s cn).employer - (levyN s dn).employer)) = v3 at hA3 hC3 hD3 hE3 ⊢
      clear hX hY hZ hV x2 f2 hu2 hA2 hC2 hD2 hE2 zz2 yy2 hla2 hlc2
      go_wp2
      rw [rounds_succ]
      have a0:=hA3.cell 0
      have a1:=hA3.cell 1
      have a2:=hA3.cell 2
      simp only [nqg,nqh,nqi] at a0 a1 a2
      have b0:=hD3.cell 0
      have b1:=hD3.cell 1
      have b2:=hD3.cell 2
      simp only [nqg,nqh,nqi] at b0 b1 b2
      have q0:=hD3.frozen 0
      have q1:=hD3.frozen 1
      have q2:=hD3.frozen 2
      have hl3:=hD3.lt
      go_wp2
      have hR3:=hD3.fill [.int .i64 ((levyN s cn).base - (levyN s dn).base),.int .i64 ((levyN s cn).employee - (levyN s dn).employee),.int .i64 ((levyN s cn).employer - (levyN s dn).employer)] rfl
      have hbel3:=below_fill (g:=w.heap.size+1) (Nat.le_succ _) [.int .i64 ((levyN s cn).base - (levyN s dn).base),.int .i64 ((levyN s cn).employee - (levyN s dn).employee),.int .i64 ((levyN s cn).employer - (levyN s dn).employer)] 0 hE3
      simp only [putAll,Nat.zero_add,Nat.reduceAdd] at hR3 hbel3
      generalize ((v3.setCell ⟨w.heap.size+1,0,none⟩ (.int .i64 ((levyN s cn).base - (levyN s dn).base))).setCell ⟨w.heap.size+1,1,none⟩ (.int .i64 ((levyN s cn).employee - (levyN s dn).employee))).setCell ⟨w.heap.size+1,2,none⟩ (.int .i64 ((levyN s cn).employer - (levyN s dn).employer)) = W3 at hR3 hbel3 ⊢
      have e0:=hR3.cell 0
      have e1:=hR3.cell 1
      have e2:=hR3.cell 2
      simp only [nqg,nqh,nqi] at e0 e1 e2
      refine bodyPost_ret (v:=_) (by simp [results,Tryz.results162,go_sem,e0,e1,e2]; rfl) rfl ⟨by rw [HN.out]; rfl,hbel3⟩
end Go.Proofs.YtlhkojcmcmkmaaaGreat
