/- Joined texts: R28e. Conditions: as stated. -/
import Derived.Test.YtjncpgbhokjbfaaGreatJ22
namespace Go.Proofs.YtjncpgbhokjbfaaGreat
open Go.RowKit
set_option maxRecDepth 100000 in
set_option maxHeartbeats 4000000 in
theorem divide28_fr (v:LevyT) (A:Option Addr) (cap:Nat) (ws:List Int) (w:World) (h:SliceOf encI 1 w w.heap.size A ws) (hw : ∀ x ∈ ws,0≤x∧x≤1000000000) (hl:ws.length≤1000) (hn0:0 < ws.length)
  (b0:0≤v.base) (b1:v.base≤1000000000) (e0:0≤v.employee) (e1:v.employee≤1000000000) (r0:0≤v.employer) (r1:v.employer≤1000000000) :
  Calls Tryz.prog 101 #[.agg #[.int .i64 v.base,.int .i64 v.employee,.int .i64 v.employer],.slice A ws.length cap] w fun e w'=>∃ B c,e = .returned (.slice B ws.length c)∧SliceOf encLv 3 w' w'.heap.size B (divN v ws)∧ws.length≤c∧(∀ a,B = some a→w.heap.size≤a.block)∧Below w.heap.size w w':=by
 have HW:=Lib.hid hw; clear hw
 have hmk:=make_levies ws.length (by omega)
 go_enter Tryz.func101,Tryz.ntmps101
 go_wp2_with fail
 have hB:=Blk.new w 126 #[.int .i64 v.base,.int .i64 v.employee,.int .i64 v.employer]
 have hbel:=below_new w (.cells #[.int .i64 v.base,.int .i64 v.employee,.int .i64 v.employer] 126)
 have hS:=h.adv hbel
 generalize w.alloc (Obj.cells _ _) = W at hB hbel hS ⊢
 go_loop [5,6] (fun s i=>∃ k:Nat,k≤ws.length∧i = .int .i64 k∧s = .int .i64 (sumI (ws.take k))) (fun _ i=>ws.length - (intOf i).toNat)
 case atStart=>exact ⟨0,by omega,rfl,rfl⟩
 case round =>
  obtain ⟨k,hk,rfl,rfl⟩:=hrel
  have hb1:=sumI_bd (l:=ws.take k) (B:=1000000000) (fun x hx=>HW.out x (List.mem_of_mem_take hx))
  simp only [List.length_take] at hb1
  have hb2:0≤sumI (ws.take k):=hb1.1
  have hb3:sumI (ws.take k)≤1000000000000:=by omega
  clear hb1
  by_cases hlt:k < ws.length
  ·
   obtain ⟨b,off,rfl,hb,hc⟩:=hS.at_ hlt
   have c0:=hc 0 _ rfl
   simp only [Nat.add_zero,Nat.mul_one] at c0
   obtain ⟨x0,x1⟩:=HW.out _ (List.getElem_mem hlt)
   have HT:=Lib.hid (sumI_take ws k hlt)
   clear hc
   go_wp2
   go_round
   case rel=>exact ⟨k+1,by omega,by go_num,by rw [HT.out]⟩
   case measure=>simp [intOf]; omega
  ·
   obtain rfl:k = ws.length:=by omega
   rw [List.take_length] at hb2 hb3 ⊢
   have hO0:=Own.lit encLv_len W (List.replicate ws.length zLv) _ 126 rfl (by simp; omega) (Nat.le_refl W.heap.size)
   rw [List.length_replicate] at hO0
   have hbel1:=bel_alloc hbel (.cells ((List.replicate ws.length zLv).flatMap encLv).toArray 126)
   have hB1:=hB.alloc (.cells ((List.replicate ws.length zLv).flatMap encLv).toArray 126)
   have hS1:=hS.advA (.cells ((List.replicate ws.length zLv).flatMap encLv).toArray 126)
   have hwW:w.heap.size < W.heap.size:=hB.lt
   clear hS hB hbel
   have hbk:Blk (W.alloc (.cells ((List.replicate ws.length zLv).flatMap encLv).toArray 126)) W.heap.size 126 ((List.replicate ws.length zLv).flatMap encLv).toArray:=Blk.new _ _ _
   go_upto_region 7 with fail
   generalize W.alloc (Obj.cells ((List.replicate ws.length zLv).flatMap encLv).toArray 126) = W2 at hO0 hbel1 hB1 hS1 hbk ⊢
   have hgW:=hbk.lt
   by_cases hz:sumI ws = 0
   ·
    have hz':(sumI ws == 0) = true:=by simp [hz]
    have HD:Hid (divN v ws = (List.replicate ws.length zLv).set 0 v):=by rw [Hid,divN,if_pos hz]
    have hO1:=hO0.set3 encLv_len (by simp) (j:=0) (by simpa using hn0) v (.int .i64 v.base) (.int .i64 v.employee) (.int .i64 v.employer) rfl
    have hbel2:=bel_set (bel_set (bel_set hbel1 (g:=W.heap.size) (by omega) 0 (.int .i64 v.base)) (g:=W.heap.size) (by omega) 1 (.int .i64 v.employee)) (g:=W.heap.size) (by omega) 2 (.int .i64 v.employer)
    rw [Nat.zero_mul,Nat.zero_add,Nat.zero_add] at hO1
    have HO1:=Lib.hid hO1
    have HB2:=Lib.hid hbel2
    have hlen3:3≤((List.replicate ws.length zLv).flatMap encLv).toArray.size:=by simp [flatMap_len3 encLv_len]; omega
    have q0 : W2.cell? ⟨W.heap.size, 0, none⟩ = some (((List.replicate ws.length zLv).flatMap encLv).toArray[0]'(by omega)) := by rw [hbk.cell 0, Array.getElem?_eq_getElem]
    have q1 : W2.cell? ⟨W.heap.size, 1, none⟩ = some (((List.replicate ws.length zLv).flatMap encLv).toArray[1]'(by omega)) := by rw [hbk.cell 1, Array.getElem?_eq_getElem]
    have q2 : W2.cell? ⟨W.heap.size, 2, none⟩ = some (((List.replicate ws.length zLv).flatMap encLv).toArray[2]'(by omega)) := by rw [hbk.cell 2, Array.getElem?_eq_getElem]
    have f0:=hbk.frozen 0
    have f1:=hbk.frozen 1
    have f2:=hbk.frozen 2
    have z0:=hB1.cell 0
    have z1:=hB1.cell 1
    have z2:=hB1.cell 2
    simp only [nqg,nqh,nqi] at z0 z1 z2
    generalize ((List.replicate ws.length zLv).flatMap encLv).toArray[0]'(by omega) = y0 at q0
    generalize ((List.replicate ws.length zLv).flatMap encLv).toArray[1]'(by omega) = y1 at q1
    generalize ((List.replicate ws.length zLv).flatMap encLv).toArray[2]'(by omega) = y2 at q2
    clear hbk hO0 hO1 hB1 hbel2 hlen3
    go_wp2
    go_ret
    obtain ⟨A9,c9,hv9,hS9,_⟩:=HO1.out.form2 encLv_len
    injection hv9 with e1 e2 e3
    rw [HD.out]
    refine ⟨some ⟨W.heap.size,0,none⟩,ws.length,rfl,?_,Nat.le_refl _,(fun a ha=>by injection ha with ha; subst ha; show w.heap.size≤W.heap.size; omega),HB2.out⟩
    rw [e1]
    exact hS9
   ·
    have hz':(sumI ws == 0) = false:=by simpa using hz
    have hs0:0 < sumI ws:=by omega
    have HD:=Lib.hid (divTo_all v ws hz)
    have z0:=hB1.cell 0
    have z1:=hB1.cell 1
    have z2:=hB1.cell 2
    simp only [nqg,nqh,nqi] at z0 z1 z2
    rw [← divTo_zero v ws] at hO0
    clear hbk
    go_wp2_with fail
    refine (allocate2_ok v.base A cap ws _ hS1 b0 b1 HW.out hs0 hl).mono ?_
    rintro e w3 ⟨g3,rfl,hg3,hR3,hb3'⟩
    have hB3:=hB1.adv hb3'
    have hS3:=hS1.adv hb3'
    have hO3:=hO0.adv hb3'
    have hbel3:=bel_adv hbel1 hb3'
    clear hB1 hS1 hO0 hbel1 z0 z1 z2
    have z0:=hB3.cell 0
    have z1:=hB3.cell 1
    have z2:=hB3.cell 2
    simp only [nqg,nqh,nqi] at z0 z1 z2
    go_wp2_with fail
    refine (allocate2_ok v.employee A cap ws _ hS3 e0 e1 HW.out hs0 hl).mono ?_
    rintro e w4 ⟨g4,rfl,hg4,hR4,hb4⟩
    have hB4:=hB3.adv hb4
    have hS4:=hS3.adv hb4
    have hO4:=hO3.adv hb4
    have hbel4:=bel_adv hbel3 hb4
    have hR3':=hR3.adv hb4
    have hs3:=hb3'.size
    have hlt3:=hR3.lt
    clear hB3 hS3 hO3 hbel3 hR3 z0 z1 z2 hb3'
    have z0:=hB4.cell 0
    have z1:=hB4.cell 1
    have z2:=hB4.cell 2
    simp only [nqg,nqh,nqi] at z0 z1 z2
    go_wp2_with fail
    refine (allocate2_ok v.employer A cap ws _ hS4 r0 r1 HW.out hs0 hl).mono ?_
    rintro e w5 ⟨g5,rfl,hg5,hR5,hb5⟩
    have hO5:=hO4.adv hb5
    have hbel5:=bel_adv hbel4 hb5
    have hRa:=hR3'.adv hb5
    have hRb:=hR4.adv hb5
    have hs4:=hb4.size
    have hs5:=hb5.size
    have hlt4:=hR4.lt
    have hne3:g3 ≠ W.heap.size:=by omega
    have hne4:g4 ≠ W.heap.size:=by omega
    have hne5:g5 ≠ W.heap.size:=by omega
    have hla:(allocN v.base ws).length = ws.length:=allocN_len _ _
    have hlb:(allocN v.employee ws).length = ws.length:=allocN_len _ _
    have hlc:(allocN v.employer ws).length = ws.length:=allocN_len _ _
    have HLA:=Lib.hid hla
    have HLB:=Lib.hid hlb
    have HLC:=Lib.hid hlc
    clear hB4 hS4 hO4 hbel4 hR3' hR4 z0 z1 z2 hb4 hb5 hla hlb hlc
    go_wp2
    go_loopw [14] (fun i wr=>∃ k:Nat,k≤ws.length∧i = .int .i64 k∧Own encLv 3 126 wr W.heap.size (.slice (some ⟨W.heap.size,0,none⟩) ws.length ws.length) (divTo v ws ws.length k)∧RowI wr g3 (allocN v.base ws)∧RowI wr g4 (allocN v.employee ws)∧RowI wr g5 (allocN v.employer ws)∧Below w.heap.size w wr) (fun i _=>ws.length - (intOf i).toNat)
    case atStart=>exact ⟨0,by omega,rfl,hO5,hRa,hRb,hR5,hbel5⟩
    case round =>
     clear hO5 hRa hRb hR5 hbel5
     obtain ⟨k,hk,rfl,hO,hRa,hRb,hRc,hbel⟩:=hrel
     by_cases hlt2:k < ws.length
     ·
      have x0:=hRa.cell (i:=k) (by rw [HLA.out]; exact hlt2)
      have x1:=hRb.cell (i:=k) (by rw [HLB.out]; exact hlt2)
      have x2:=hRc.cell (i:=k) (by rw [HLC.out]; exact hlt2)
      obtain ⟨A7,c7,hv7,hS7,_⟩:=hO.form2 encLv_len
      injection hv7 with hv8 hv8a hv8b
      subst hv8
      clear hv8a hv8b
      obtain ⟨b,off,hA1,hb,hc⟩:=hS7.at_ (i:=k) (by rw [divTo_len]; exact hlt2)
      injection hA1 with hA1
      injection hA1 with hA1 hA2
      subst hA1 hA2
      have q0:=hc 0 _ rfl
      have q1:=hc 1 _ rfl
      have q2:=hc 2 _ rfl
      simp only [Nat.add_zero,Nat.zero_add] at q0 q1 q2
      generalize (divTo v ws ws.length k)[k]'_ = yy at q0 q1 q2
      obtain ⟨gq,capq,cur,hvq,_,hblk,_,_⟩:=hO.some_ (by rw [divTo_len]; omega)
      injection hvq with hvq hvqa hvqb
      clear hvqa hvqb
      injection hvq with hvq
      injection hvq with hvq
      subst hvq
      have fq0:=hblk.frozen (k * 3)
      have fq1:=hblk.frozen (k * 3+1)
      have fq2:=hblk.frozen (k * 3+2)
      have hO1:=hO.set3 encLv_len (by rw [divTo_len]) (j:=k) (by rw [divTo_len]; exact hlt2) (divF v ws k) (.int .i64 ((allocN v.base ws).getD k 0)) (.int .i64 ((allocN v.employee ws).getD k 0)) (.int .i64 ((allocN v.employer ws).getD k 0)) rfl
      rw [divTo_set _ _ _ _ hlt2] at hO1
      have HO1:=Lib.hid hO1
      have hRa1:=Lib.hid (((hRa.far (p:=⟨W.heap.size,k * 3,none⟩) hne3 (.int .i64 ((allocN v.base ws).getD k 0))).far (p:=⟨W.heap.size,k * 3+1,none⟩) hne3 (.int .i64 ((allocN v.employee ws).getD k 0))).far (p:=⟨W.heap.size,k * 3+2,none⟩) hne3 (.int .i64 ((allocN v.employer ws).getD k 0)))
      have hRb1:=Lib.hid (((hRb.far (p:=⟨W.heap.size,k * 3,none⟩) hne4 (.int .i64 ((allocN v.base ws).getD k 0))).far (p:=⟨W.heap.size,k * 3+1,none⟩) hne4 (.int .i64 ((allocN v.employee ws).getD k 0))).far (p:=⟨W.heap.size,k * 3+2,none⟩) hne4 (.int .i64 ((allocN v.employer ws).getD k 0)))
      have hRc1:=Lib.hid (((hRc.far (p:=⟨W.heap.size,k * 3,none⟩) hne5 (.int .i64 ((allocN v.base ws).getD k 0))).far (p:=⟨W.heap.size,k * 3+1,none⟩) hne5 (.int .i64 ((allocN v.employee ws).getD k 0))).far (p:=⟨W.heap.size,k * 3+2,none⟩) hne5 (.int .i64 ((allocN v.employer ws).getD k 0)))
      have hbel1:=Lib.hid (bel_set (bel_set (bel_set hbel (g:=W.heap.size) (by omega) (k * 3) (.int .i64 ((allocN v.base ws).getD k 0))) (g:=W.heap.size) (by omega) (k * 3+1) (.int .i64 ((allocN v.employee ws).getD k 0))) (g:=W.heap.size) (by omega) (k * 3+2) (.int .i64 ((allocN v.employer ws).getD k 0)))
      clear hO1 hO hRa hRb hRc hbel hblk hS7 hc
      generalize (allocN v.base ws).getD k 0 = r1' at *
      generalize (allocN v.employee ws).getD k 0 = r2' at *
      generalize (allocN v.employer ws).getD k 0 = r3' at *
      go_wp2
      go_region
      go_wp2
      go_roundw
      case rel=>exact ⟨k+1,by omega,by go_num,HO1.out.drewN 1,hRa1.out.drew,hRb1.out.drew,hRc1.out.drew,below_drewN hbel1.out 1⟩
      case measure=>simp [intOf]; omega
     ·
      obtain rfl:k = ws.length:=by omega
      have HO:=Lib.hid hO
      clear hO
      go_wp2
      go_ret
      have hO9:=HO.out
      rw [HD.out] at hO9
      obtain ⟨A9,c9,hv9,hS9,_⟩:=hO9.form2 encLv_len
      injection hv9 with q1 q2 q3
      refine ⟨some ⟨W.heap.size,0,none⟩,ws.length,rfl,?_,Nat.le_refl _,(fun a ha=>by injection ha with ha; subst ha; show w.heap.size≤W.heap.size; omega),hbel⟩
      rw [q1]
      exact hS9
def LvPostF (m:List LevyT) (er:Int) (w:World) (e:Ending) (w' : World) : Prop :=
 ∃ A cap,e = .returned (.tuple #[.slice A m.length cap,.int .i64 er])∧SliceOf encLv 3 w' w'.heap.size A m∧m.length≤cap∧(∀ a,A = some a→w.heap.size≤a.block)∧Below w.heap.size w w'
set_option maxRecDepth 100000 in
set_option maxHeartbeats 4000000 in
theorem joint28_fr (s:SchT) (A:Option Addr) (cap n : Nat) (es:List EmpC) (w:World) (h:SliceOf encEm 2 w w.heap.size A es) (hin : ∀ e ∈ es,SliceOf encI 1 w w.heap.size e.A e.l) (hs:SchOk s) (hE:EmpsOk n (es.map EmpC.v)) :
  Calls Tryz.prog 56 #[aggSch s,.slice A es.length cap] w (LvPostF (jointL s n (es.map EmpC.v)) (jointE s n (es.map EmpC.v)) w):=by
 have hl8:es.length≤8:=by have:=hE.len; simpa using this
 have hl0:0 < es.length:=by have:=hE.ne; simpa using this
 have hn52:=hE.nn
 have HE:=Lib.hid hE
 have HS:=Lib.hid hs
 have HIN:=Lib.hid hin
 have hlens:∀ k,(hk:k < es.length)→es[k].l.length = n:=fun k hk=>hE.lens (es[k].v) (List.mem_map.2 ⟨_,List.getElem_mem hk,rfl⟩)
 have hbase:∀ k,(hk:k < es.length)→0≤es[k].base∧es[k].base≤1000000000:=fun k hk=>hE.base (es[k].v) (List.mem_map.2 ⟨_,List.getElem_mem hk,rfl⟩)
 have hearl:∀ k,(hk:k < es.length)→∀ x ∈ es[k].l,0≤x∧x≤1000000000:=fun k hk=>hE.earlier (es[k].v) (List.mem_map.2 ⟨_,List.getElem_mem hk,rfl⟩)
 have HLENS:=Lib.hid hlens
 have HBASE:=Lib.hid hbase
 have HEARL:=Lib.hid hearl
 clear hE hs hin hlens hbase hearl
 have hmk:=make_intsE (n+1) ((n:Int)+1) (by omega) (by omega)
 unfold aggSch
 go_enter Tryz.func56,Tryz.ntmps56
 go_wp2_with fail
 have hB:=Blk.new w 124 #[.string s.code,.int .i64 s.employee,.int .i64 s.employer,.int .i64 s.floor,.int .i64 s.ceiling,.int .i64 s.unit,.int .i64 s.mode,.bool s.deductible]
 have hbel:=below_new w (.cells #[.string s.code,.int .i64 s.employee,.int .i64 s.employer,.int .i64 s.floor,.int .i64 s.ceiling,.int .i64 s.unit,.int .i64 s.mode,.bool s.deductible] 124)
 generalize w.alloc (Obj.cells _ _) = W at hB hbel ⊢
 have hcon:=valid28_yes s W HS.out
 unfold aggSch at hcon
 refine hcon.mono ?_
 rintro e w1 ⟨rfl,hb1⟩
 have hB1:=hB.adv hb1
 have hbel1:=bel_adv hbel hb1
 have hS1:=h.adv hbel1
 have HIN1:Hid (∀ e ∈ es,SliceOf encI 1 w1 w1.heap.size e.A e.l):=fun e he=>(HIN.out e he).adv hbel1
 have hws:w.heap.size < w1.heap.size:=hB1.lt
 clear hB hbel hcon hb1 h HIN
 have hz0:((es.length:Int) == 0) = false:=by rw [beq_eq_false_iff_ne]; omega
 go_wp2
 go_loop [6] (fun i=>∃ k:Nat,k≤es.length∧i = .int .i64 k) (fun i=>es.length - (intOf i).toNat)
 case atStart=>exact ⟨0,by omega,rfl⟩
 case round =>
  obtain ⟨k,hk,rfl⟩:=hrel
  by_cases hlt:k < es.length
  ·
   obtain ⟨b,off,rfl,hb,hc⟩:=hS1.at_ hlt
   have c0:=hc 0 _ rfl
   simp only [Nat.add_zero] at c0
   clear hc
   have hq:=HLENS.out k hlt
   rw [hq] at c0
   clear hq
   go_wp2
   go_round
   case rel=>exact ⟨k+1,by omega,by go_num⟩
   case measure=>simp [intOf]; omega
  ·
   obtain rfl:k = es.length:=by omega
   clear hk hlt
   go_wp2
   go_loopw [7] (fun i wr=>∃ k q:Nat,k+1≤es.length∧i = .int .i64 ((k:Int)+1)∧Hid (wr = w1.drewN q)) (fun i _=>es.length - (intOf i).toNat)
   case atStart=>exact ⟨0,0,by omega,rfl,rfl⟩
   case round =>
    obtain ⟨k,q,hk,rfl,hw⟩:=hrel
    have hS2:SliceOf encEm 2 wr wr.heap.size A es:=by rw [hw.out]; exact hS1.advD q
    obtain ⟨b,off,hAe,hb,hc0⟩:=hS2.at_ (i:=0) hl0
    subst hAe
    have d0:=hc0 0 _ rfl
    have hq0:=HLENS.out 0 hl0
    simp only [Nat.add_zero,Nat.zero_mul] at d0
    rw [hq0] at d0
    clear hc0 hq0
    by_cases hlt:k+1 < es.length
    ·
     obtain ⟨b',off',hA2,hb',hc⟩:=hS2.at_ hlt
     injection hA2 with hA2
     injection hA2 with hA2 hA3
     subst hA2 hA3
     have c0:=hc 0 _ rfl
     simp only [Nat.add_zero] at c0
     clear hc
     have hq:=HLENS.out (k+1) hlt
     rw [hq] at c0
     clear hq
     go_wp2
     go_quiet (fail)
     go_wp2
     go_roundw
     case rel=>exact ⟨k+1,q+nq,by omega,by go_num,by show wr.drewN nq = w1.drewN (q+nq); rw [hw.out,World.drewN_drewN]⟩
     case measure=>simp [intOf]; omega
    ·
     have hlt':¬ (k:Int)+1 < (es.length:Int):=by omega
     have hB2:Blk wr w.heap.size 124 #[.string s.code,.int .i64 s.employee,.int .i64 s.employer,.int .i64 s.floor,.int .i64 s.ceiling,.int .i64 s.unit,.int .i64 s.mode,.bool s.deductible]:=by rw [hw.out]; exact hB1.drewN q
     have hbel2:Below w.heap.size w wr:=by rw [hw.out]; exact below_drewN hbel1 q
     have HIN2:Hid (∀ e ∈ es,SliceOf encI 1 wr wr.heap.size e.A e.l):=fun e he=>by rw [hw.out]; exact (HIN1.out e he).advD q
     have hlt2:(0:Int) < (es.length:Int):=by omega
     have hwx:w.heap.size < wr.heap.size:=hB2.lt
     have hRm:=RowI.made wr (n+1)
     have hbelM:=below_new wr (.cells (madeCells #[.int .i64 0] (n+1)) 3)
     clear hB1 hbel1 HIN1 hS1 hw hk hlt
     rename World=>w2
     go_upto_region 17 with fail
     have hbelW:=bel_adv hbel2 hbelM
     have hBW:=hB2.adv hbelM
     have hSW:=hS2.adv hbelM
     have HINW:Hid (∀ e ∈ es,SliceOf encI 1 (w2.alloc (.cells (madeCells #[.int .i64 0] (n+1)) 3)) (w2.alloc (.cells (madeCells #[.int .i64 0] (n+1)) 3)).heap.size e.A e.l):=fun e he=>(HIN2.out e he).adv hbelM
     generalize w2.alloc (.cells (madeCells #[.int .i64 0] (n+1)) 3) = W3 at hRm hbelM hbelW hBW hSW HINW ⊢
     obtain ⟨g9,hg9⟩ : ∃ g,g = w2.heap.size:=⟨_,rfl⟩
     have hg9l:w.heap.size < g9:=by omega
     have hg9b:b < g9:=by omega
     have hz2:∀ e ∈ es,∀ a,e.A = some a→e.l ≠ []→a.block < g9:=fun e he a ha hne=>by
      obtain ⟨b1,off1,hA1,hb1,_⟩:=(HIN2.out e he) hne
      rw [ha] at hA1
      injection hA1 with hA1
      subst hA1
      simp only
      omega
     have HZ2:=Lib.hid hz2
     rw [← hg9] at hRm hbelM ⊢
     clear hg9 hz2 hB2 hbel2 HIN2 hS2 d0 hbelM
     have hwg:=hRm.lt
     go_wp2
     go_loopw [8,10] (fun bv i wr=>∃ k:Nat,k≤es.length∧i = .int .i64 k∧Own encI 1 3 wr W3.heap.size bv (basesJ ((es.map EmpC.v).take k))∧RowI wr g9 (sumsJ n ((es.map EmpC.v).take k))∧w.grownBy wr none∧W3.grownBy wr (some g9)) (fun _ i _=>es.length - (intOf i).toNat)
     case atStart=>exact ⟨0,by omega,rfl,Own.nil_ _ _,hRm,only_of_below hbelW none,only_refl _ _⟩
     case round =>
      clear hRm
      rename World=>w3
      obtain ⟨k,hk,rfl,hown,hR,hgw,hgW⟩:=hrel
      have hs3:=hgW.size
      have hSk:SliceOf encEm 2 w3 w3.heap.size (some ⟨b,off,none⟩) es:=hSW.advG hgW (fun a ha=>by injection ha with ha; subst ha; simp only; omega)
      have hBk:=hBW.grown hgW (by intro e; injection e; omega)
      obtain ⟨S,hSe⟩ : ∃ S,S = sumsJ n ((es.map EmpC.v).take k):=⟨_,rfl⟩
      have hSl:S.length = n+1:=by rw [hSe]; exact (HE.out.take k).1
      have hS0:∀ i,0≤S.getD i 0:=fun i=>by rw [hSe]; exact getD_nonneg (HE.out.take k).2 i
      have hS9:∀ i,i < n+1→S.getD i 0≤8000000000:=fun i hi=>by
       rw [hSe]
       have:=HE.out.sums_hi k (by simpa using hk) i hi
       omega
      have HSE:=Lib.hid hSe
      have HSL:=Lib.hid hSl
      have HS0:=Lib.hid hS0
      have HS9:=Lib.hid hS9
      rw [← hSe] at hR
      clear hSe hSl hS0 hS9
      by_cases hltk:k < es.length
      ·
       obtain ⟨b',off',hA2,hbb,hc⟩:=hSk.at_ hltk
       injection hA2 with hA2
       injection hA2 with hA2 hA3
       subst hA2 hA3
       have c0:=hc 0 _ rfl
       have c1:=hc 1 _ rfl
       simp only [Nat.add_zero] at c0
       clear hc
       have hq:=HLENS.out k hltk
       obtain ⟨p0,p1⟩:=HBASE.out k hltk
       have hin1:inB es[k].base 1000000000 = true:=inB_iff.2 ⟨p0,p1⟩
       have HADV:Hid (∀ wz,W3.grownBy wz (some g9)→SliceOf encI 1 wz wz.heap.size es[k].A es[k].l):=fun wz hz=>by
        by_cases hnl:es[k].l = []
        ·
         rw [hnl]; exact SliceOf.nil_
        ·
         exact (HINW.out _ (List.getElem_mem hltk)).advG hz (fun a ha=>by have:=HZ2.out _ (List.getElem_mem hltk) a ha hnl; omega)
       have hall:=all28_yes es[k].A es[k].cap es[k].l w3 _ (HADV.out w3 hgW) (by omega) (HEARL.out k hltk)
       rw [hq] at c0 hall
       have HALL:=Lib.hid hall
       have HQ:=Lib.hid hq
       have HBT:=Lib.hid (basesJ_take (es.map EmpC.v) k (by simpa using hltk))
       have HST:=Lib.hid (sumsJ_take n (es.map EmpC.v) k (by simpa using hltk))
       rw [mapv_get hltk] at HBT HST
       have hbl:(basesJ ((es.map EmpC.v).take k)).length≤8:=by simp [basesJ]; omega
       clear hq hall
       go_wp2_with fail
       refine (in28_any _ _).mono ?_
       rintro e w' ⟨rfl,rfl⟩
       rw [hin1]
       go_wp2_with fail
       refine Calls.mono HALL.out ?_
       rintro e w' ⟨rfl,rfl⟩
       have hr6:=fun q hq=>(hown.block_lt (g:=q) hq).1
       go_wp2_with (at_builtin; (refine wpList_append_one _ _ 22 es[k].base _ 8 _ infoInt Tryz.underlying22 hown encI_len (by omega) rfl (fun u hu=>by simp [encI] at hu; subst hu; rfl) (by omega) (by omega) hs3 (by rfl) (by rfl) (by rfl) (by rfl) (by simp) (by rfl) ?_); intro v2 w6 hown6 hg6)
       have hR6:=hR.grown hg6 (fun e=>by have:=hr6 _ e.symm; omega)
       have hgW6:W3.grownBy w6 (some g9):=only_then hgW hg6 (fun g e=>.inl (hr6 g e))
       have hrow:=rowJ_start (x:=es[k].l) hR6 HSL.out
       clear hown hR hgw hg6 hR6 c0 c1 hSk hBk hbb
       go_loopw [11] (fun i wr=>∃ j:Nat,j≤n∧i = .int .i64 j∧wr.rowIs g9 3 (n+1) (rowJ S es[k].l j)∧Own encI 1 3 wr W3.heap.size v2 (basesJ ((es.map EmpC.v).take k)++[es[k].base])∧W3.grownBy wr (some g9)) (fun i _=>n - (intOf i).toNat)
       case atStart=>exact ⟨0,by omega,rfl,hrow,hown6,hgW6⟩
       case round =>
        clear hrow hown6 hgW6
        rename World=>w7
        obtain ⟨j,hj,rfl,hrow,hown7,hgW7⟩:=hrel
        have hSk:SliceOf encEm 2 w7 w7.heap.size (some ⟨b,off,none⟩) es:=hSW.advG hgW7 (fun a ha=>by injection ha with ha; subst ha; simp only; omega)
        obtain ⟨b',off',hA2,hbb,hc⟩:=hSk.at_ hltk
        injection hA2 with hA2
        injection hA2 with hA2 hA3
        subst hA2 hA3
        have c0:=hc 0 _ rfl
        have c1:=hc 1 _ rfl
        simp only [Nat.add_zero] at c0
        rw [HQ.out] at c0
        clear hc
        by_cases hltj:j < n
        ·
         obtain ⟨b2,off2,hA4,hb2,hc2⟩:=(HADV.out w7 hgW7).at_ (i:=j) (by rw [HQ.out]; exact hltj)
         rw [hA4] at c0
         have d0:=hc2 0 _ rfl
         simp only [Nat.add_zero,Nat.mul_one] at d0
         clear hc2
         have hxx := HEARL.out k hltk (es[k].l[j]'(by rw [HQ.out]; exact hltj)) (List.getElem_mem _)
         have hxe : es[k].l[j]'(by rw [HQ.out]; exact hltj) = es[k].l.getD j 0 := by rw [List.getD_eq_getElem?_getD, List.getElem?_eq_getElem]; rfl
         rw [hxe] at d0 hxx
         obtain ⟨x0,x1⟩:=hxx
         have q0:=hrow.cell (i:=j) (by omega)
         have f0:=hrow.frozen j
         rw [rowJ,if_neg (by omega),Int.add_zero] at q0
         have s0:=HS0.out j
         have s1:=HS9.out j (by omega)
         have hrow1:=rowJ_next hrow
         have hb2ne:b2 ≠ g9:=by have:=HZ2.out _ (List.getElem_mem hltk) _ hA4 (by intro e; have:=HQ.out; rw [e] at this; simp at this; omega); simp only at this; omega
         have hbne:b ≠ g9:=by omega
         have HROW:=Lib.hid hrow1
         have HOWN:=Lib.hid (hown7.setCell (p:=⟨g9,j,none⟩) (fun q hq=>by have:=(hown7.block_lt hq).1; simp only; omega) (.int .i64 (S.getD j 0+es[k].l.getD j 0)))
         have HGW:=Lib.hid (only_setCell (p:=⟨g9,j,none⟩) hgW7 (.inl rfl) (.int .i64 (S.getD j 0+es[k].l.getD j 0)))
         clear hrow hown7 hgW7 hrow1 hxe hA4
         generalize S.getD j 0 = sj at *
         generalize es[k].l.getD j 0 = xj at *
         go_wp2
         go_region
         go_wp2
         go_roundw
         case rel=>exact ⟨j+1,by omega,by go_num,World.rowIs.of_block HROW.out rfl,HOWN.out.drewN 1,only_drewN HGW.out 1⟩
         case measure=>simp [intOf]; omega
        ·
         obtain rfl:j = n:=by omega
         have q0:=hrow.cell (i:=j) (by omega)
         have f0:=hrow.frozen j
         rw [rowJ,if_neg (by omega),Int.add_zero] at q0
         have s0:=HS0.out j
         have s1:=HS9.out j (by omega)
         have hR8:=rowJ_end (b:=es[k].base) hrow HSL.out HQ.out
         rw [HSE.out,← HST.out] at hR8
         have HR8:=Lib.hid hR8
         have hbne:b ≠ g9:=by omega
         have HOWN:=Lib.hid (hown7.setCell (p:=⟨g9,j,none⟩) (fun q hq=>by have:=(hown7.block_lt hq).1; simp only; omega) (.int .i64 (S.getD j 0+es[k].base)))
         have HGW:=Lib.hid (only_setCell (p:=⟨g9,j,none⟩) hgW7 (.inl rfl) (.int .i64 (S.getD j 0+es[k].base)))
         have hn1:(j:Int)+1 - 1 = (j:Int):=by omega
         rw [← HSE.out] at HR8
         clear hrow hown7 hgW7 hR8
         have hlj:¬ (j:Int) < (j:Int):=by omega
         generalize S.getD j 0 = sj at *
         go_wp2
         go_region
         go_wp2
         go_roundw
         case rel=>exact ⟨k+1,by omega,by go_num,by rw [HBT.out]; exact HOWN.out.drewN 1,HR8.out.drew,only_drewN (only_then (only_of_below hbelW none) HGW.out (fun g e=>.inl (by injection e; omega))) 1,only_drewN HGW.out 1⟩
         case measure=>simp [intOf]; omega
      ·
       obtain rfl:k = es.length:=by omega
       have htk:(es.map EmpC.v).take es.length = es.map EmpC.v:=List.take_of_length_le (by simp)
       rw [htk] at hown HSE
       have hbw:Below w.heap.size w w3:=only_below hgw (Nat.le_refl _) (fun g e=>by cases e)
       have hSnn:∀ x ∈ S,0≤x∧x≤8000000000:=fun x hx=>by
        obtain ⟨i,hi,rfl⟩:=List.mem_iff_getElem.1 hx
        have e:S[i] = S.getD i 0:=by rw [List.getD_eq_getElem?_getD,List.getElem?_eq_getElem hi]; rfl
        rw [e]
        exact ⟨HS0.out i,HS9.out i (by rw [← HSL.out]; exact hi)⟩
       have hcon:=next28_ok s (some ⟨g9,0,none⟩) (n+1) S w3 hR.slice (by rw [HSL.out]; omega) (by rw [HSL.out]; omega) (by rw [HSL.out]; exact Nat.le_refl _) hSnn HS.out
       rw [HSL.out] at hcon
       unfold aggSch aggLv at hcon
       have HC:=Lib.hid hcon
       obtain ⟨A8,c8,rfl,hS8,hA8,hlc8,hcm8⟩:=hown.form2 encI_len
       have hbl8:(basesJ (es.map EmpC.v)).length = es.length:=by simp [basesJ]
       have HBL:=Lib.hid hbl8
       have z0:=hBk.cell 0
       have z1:=hBk.cell 1
       have z2:=hBk.cell 2
       have z3:=hBk.cell 3
       have z4:=hBk.cell 4
       have z5:=hBk.cell 5
       have z6:=hBk.cell 6
       have z7:=hBk.cell 7
       simp only [nqg,nqh,nqi] at z0 z1 z2 z3 z4 z5 z6 z7
       clear hcon hgW hgw hSk htk hown hbl8 hSnn hA8
       go_wp2_with fail
       refine Calls.mono HC.out ?_
       rintro e w4 ⟨rfl,hb4⟩
       have hb4w:=bel_adv hbw hb4
       have hS9':=hS8.adv hb4
       have hv:Hid (nextN s S = jointV s n (es.map EmpC.v)):=by rw [Hid,HSE.out]; rfl
       obtain ⟨y0,y1,y2,y3,y4,y5⟩:=jointV_bd HS.out HE.out
       rw [hv.out]
       have HBB:=Lib.hid (bases_bd HE.out)
       have HJE:Hid (jointE s n (es.map EmpC.v) = if overJ (jointV s n (es.map EmpC.v)) then 4 else 0):=rfl
       have HJL:Hid (jointL s n (es.map EmpC.v) = if overJ (jointV s n (es.map EmpC.v)) then [] else divN (jointV s n (es.map EmpC.v)) (basesJ (es.map EmpC.v))):=rfl
       generalize jointV s n (es.map EmpC.v) = v at *
       generalize basesJ (es.map EmpC.v) = bs at *
       generalize jointE s n (es.map EmpC.v) = jE at *
       generalize jointL s n (es.map EmpC.v) = jL at *
       clear HC hv hBk hR hb4 hS8 z0 z1 z2 z3 z4 z5 z6 z7 hbw
       rcases hov:overJ v with _ | _
       ·
        obtain ⟨o1,o2,o3⟩:=overJ_no hov
        rw [hov] at HJE HJL
        clear hov
        have hbel5:=bel_alloc hb4w (.cells #[.int .i64 v.base,.int .i64 v.employee,.int .i64 v.employer] 126)
        go_wp2_with fail
        have hcon:=divide28_fr v A8 c8 bs _ (hS9'.advA (.cells #[.int .i64 v.base,.int .i64 v.employee,.int .i64 v.employer] 126)) HBB.out (by rw [HBL.out]; omega) (by rw [HBL.out]; omega) y0 o1 y1 o2 y2 o3
        have HC2:=Lib.hid hcon
        clear hcon
        refine Calls.mono HC2.out ?_
        rintro e w5 ⟨B5,c5,rfl,hS5,hlc5,hfr5,hb5⟩
        have HFR:Hid (∀ a,B5 = some a→w.heap.size≤a.block):=fun a ha=>Nat.le_trans hbel5.size (hfr5 a ha)
        clear hfr5
        have hbel6:=bel_adv hbel5 hb5
        go_wp2
        go_ret2
        rw [HJE.out,HJL.out]
        refine ⟨B5,c5,?_,hS5,?_,HFR.out,hbel6⟩
        ·
         simp [divN_len]
        ·
         simp [divN_len]; exact hlc5
       ·
        rw [hov] at HJE HJL
        have hfin:∀ W9:World,Below w.heap.size w W9→LvPostF jL jE w (Ending.returned (.tuple #[.slice none 0 0,.int .i64 4])) W9:=fun W9 hb9=>by
         rw [HJE.out,HJL.out]
         exact ⟨none,0,rfl,SliceOf.nil_,Nat.le_refl _,(fun a ha=>by cases ha),hb9⟩
        have HF:=Lib.hid hfin
        have hbel5:=bel_alloc hb4w (.cells #[.int .i64 v.base,.int .i64 v.employee,.int .i64 v.employer] 126)
        have hcs:1000000000 < v.base ∨ (v.base≤1000000000∧1000000000 < v.employee) ∨ (v.base≤1000000000∧v.employee≤1000000000∧1000000000 < v.employer):=by
         simp only [overJ,Bool.or_eq_true,decide_eq_true_eq] at hov
         omega
        clear hfin hov
        rcases hcs with k1 | ⟨k1,k2⟩ | ⟨k1,k2,k3⟩
        all_goals
         go_wp2
         go_ret2
         exact HF.out _ hbel5
end Go.Proofs.YtjncpgbhokjbfaaGreat
