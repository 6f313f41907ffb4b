/- Joined texts: TgW5 TgT. Conditions: as stated. -/
import Derived.Test.YtopekilofdadnaaGreatDoorJTeN
import Derived.Test.YtopekilofdadnaaGreatDoorJTgW3
namespace Go.Proofs.YtopekilofdadnaaGreatDoor
open Go.RowKit
namespace M3
theorem mix_callD {P:Program} {ops:Array Oper} {C:World→Prop} {i:Nat} {o:Oper} {K:Act→World→Prop} {a:Act} {w:World} (d:Option Tmp) (f:FuncId) (args:Array Value) (ho:ops[i]? = some o) (hd:o.dst = d) (hg:o.guard = none) (hrun : (execOp a.eval o).run P w = .ok (.enter f args) w)
  (h:Calls P f args w fun e w''=>∃ v,e = .returned v∧K (a.put d v) w'') : stepM P ops C i K a w:=by
 subst hd
 exact mix_call f args ho (by simp [Region.wanted,hg]) hrun h
theorem mix_valD {P:Program} {ops:Array Oper} {C:World→Prop} {i:Nat} {o:Oper} {K:Act→World→Prop} {a:Act} {w:World} (d:Option Tmp) (v:Value) (w1:World) (ho:ops[i]? = some o) (hd:o.dst = d) (hg:o.guard = none) (hrun : (execOp a.eval o).run P w = .ok (.value v) w1) (h:K (a.put d v) w1) : stepM P ops C i K a w:=by
 subst hd
 exact mix_val v w1 ho (by simp [Region.wanted,hg]) hrun h
end M3
structure DutyOk (w:World) (x:DutyM) (s pf pt : Int) : Prop where
 ps:PrsIn w x.A x.ps
 len:x.ps.length≤64
 br:∀ p ∈ x.ps,p.br.length≤16
 adj:AdjOk s ⟨pf,pt⟩ x.ps
 pl:(pf = 0∧pt = 0) ∨ (0≤pf∧pf < pt∧pt≤120968640)
 tot:sumIv (staysN (x.ps.map PresM.p))≤100000
theorem DutyOk.adv {w w' : World} {x:DutyM} {s pf pt : Int} (h:DutyOk w x s pf pt) (hb:Below w.heap.size w w') : DutyOk w' x s pf pt:=⟨h.ps.adv hb,h.len,h.br,h.adj,h.pl,h.tot⟩
def AdjustPost (x:DutyM) (w:World) (e:Ending) (w' : World) : Prop :=
 ∃ A c,e = .returned (.tuple #[.agg #[.int .i64 x.d,.slice A (workN (x.ps.map PresM.p)).length c],.int .i64 0])∧SliceOf encIv 2 w' w'.heap.size A (workN (x.ps.map PresM.p))∧(workN (x.ps.map PresM.p)).length≤65600∧(∀ a,A = some a→w.heap.size≤a.block)∧Below w.heap.size w w'
theorem stays_ok {lo hi : Int} : ∀ {l:List PresT},prOk lo hi l→∀ x ∈ staysN l,lo≤x.f∧x.f≤x.t∧x.t≤hi:=fun {l} h x hx=>by
 obtain ⟨p,hp,rfl⟩:=List.mem_map.1 hx
 obtain ⟨h1,h2,h3,_⟩:=prOk_in h p hp
 exact ⟨h1,by omega,h3⟩
section
set_option maxHeartbeats 8000000
set_option maxRecDepth 100000
theorem adjustAll (x:DutyM) (s pf pt : Int) (w:World) (h:DutyOk w x s pf pt) (hs:0≤s∧s≤120) :
  Calls Tryz.prog 94 #[adjV s,.agg #[.int .i64 pf,.int .i64 pt],.agg #[.int .i64 x.s,.int .i64 x.d,.slice x.A x.ps.length x.c]] w (AdjustPost x w):=by
 have HS:=Lib.hid hs
 have HD0:=Lib.hid h
 have hpl:=h.pl
 have hpf:0≤pf∧pf≤120968640:=by omega
 have hpt:0≤pt∧pt≤120968640:=by omega
 have HPF:=Lib.hid hpf
 have HPT:=Lib.hid hpt
 have HPL:=Lib.hid hpl
 have HOK:=Lib.hid h.ps.ok
 have hln:=h.len
 have htot:=h.tot
 obtain ⟨xs,xd,xA,xc,xp⟩:=x
 have hln:xp.length≤64:=hln
 have HADJ:Hid (AdjOk s ⟨pf,pt⟩ xp):=h.adj
 have HBRL:Hid (∀ p ∈ xp,p.br.length≤16):=h.br
 have HOK:Hid (prOk 0 120968640 (xp.map PresM.p)):=HOK
 have HPS0:Hid (PrsIn w xA xp):=h.ps
 have htot:sumIv (staysN (xp.map PresM.p))≤100000:=htot
 obtain ⟨P,hP⟩ : ∃ P,(!(pf == 0 && pt == 0)) = P:=⟨_,rfl⟩
 have hq:=fun w:World=>neqIv pf pt 0 0 w
 rw [hP] at hq
 have HP:=Lib.hid hP
 let Z0:Obj:=.cells #[.int .i64 0,.int .i64 0,.int .i64 s,.slice none 0 0] 45
 let Z1:Obj:=.cells #[.int .i64 pf,.int .i64 pt] 34
 let Z2:Obj:=.cells #[.int .i64 xs,.int .i64 xd,.slice xA xp.length xc] 150
 let Z3:Obj:=.cells #[.int .i64 0,.slice none 0 0] 152
 have hB0:=((Blk.new w 45 #[.int .i64 0,.int .i64 0,.int .i64 s,.slice none 0 0]).alloc Z1).alloc Z2 |>.alloc Z3
 have hB1:=(Blk.newAt (w:=w.alloc Z0) (g:=w.heap.size+1) 34 #[.int .i64 pf,.int .i64 pt] (by simp)).alloc Z2 |>.alloc Z3
 have hB2:=(Blk.newAt (w:=(w.alloc Z0).alloc Z1) (g:=w.heap.size+1+1) 150 #[.int .i64 xs,.int .i64 xd,.slice xA xp.length xc] (by simp)).alloc Z3
 have hB3:=Blk.newAt (w:=((w.alloc Z0).alloc Z1).alloc Z2) (g:=w.heap.size+1+1+1) 152 #[.int .i64 0,.slice none 0 0] (by simp)
 have hbel0:=bel_alloc (bel_alloc (bel_alloc (below_new w Z0) Z1) Z2) Z3
 have hsz:(((w.alloc Z0).alloc Z1).alloc Z2).alloc Z3 = (((w.alloc Z0).alloc Z1).alloc Z2).alloc Z3:=rfl
 clear h hpl hpf hpt hP hs
 show Calls Tryz.prog 94 #[.agg #[.int .i64 0,.int .i64 0,.int .i64 s,.slice none 0 0],.agg #[.int .i64 pf,.int .i64 pt],.agg #[.int .i64 xs,.int .i64 xd,.slice xA xp.length xc]] w _
 clear hsz
 simp only [Z0,Z1,Z2,Z3] at hB0 hB1 hB2 hB3 hbel0
 clear Z0 Z1 Z2 Z3
 generalize hWW:(((w.alloc (.cells #[.int .i64 0,.int .i64 0,.int .i64 s,.slice none 0 0] 45)).alloc (.cells #[.int .i64 pf,.int .i64 pt] 34)).alloc (.cells #[.int .i64 xs,.int .i64 xd,.slice xA xp.length xc] 150)).alloc (.cells #[.int .i64 0,.slice none 0 0] 152) = W at hB0 hB1 hB2 hB3 hbel0
 have HWW:=Lib.hid hWW
 clear hWW
 go_enter Tryz.func94,Tryz.ntmps94
 go_wp2_with fail
 rw [HWW.out]
 refine (validW s _ HS.out).mono ?_
 rintro e w1 ⟨rfl,hb1⟩
 have hC0:=hB0.adv hb1
 have hC1:=hB1.adv hb1
 have hC2:=hB2.adv hb1
 have hC3:=hB3.adv hb1
 have hbel1:=bel_adv hbel0 hb1
 have p0:=hC1.cell 0
 have p1:=hC1.cell 1
 simp only [nqg,nqh,nqi] at p0 p1
 clear hb1 hB0 hB1 hB2 hB3 hbel0 HWW
 go_upto_region 4 with fail
 go_cut [25] (fun v wx=>v = .bool false∧RowKit.Below w1.heap.size w1 wx)
 case first =>
  rcases P with _ | _
  ·
   go_wp2
   go_meet
   exact ⟨rfl,Below.refl _ _⟩
  ·
   have hv:0≤pf∧pf < pt∧pt≤120968640:=by
    rcases HPL.out with ⟨e1,e2⟩ | h
    ·
     have:=HP.out; rw [e1,e2] at this; simp at this
    ·
     exact h
   obtain ⟨v1,v2,v3⟩:=hv
   go_wp2_with fail
   refine (validIvW pf pt _ v1 v2 v3).mono ?_
   rintro e w2 ⟨rfl,hb2⟩
   go_wp2
   go_meet
   exact ⟨rfl,hb2⟩
 case rest =>
  obtain ⟨rfl,hb2⟩:=hcut
  have hD0:=hC0.adv hb2
  have hD1:=hC1.adv hb2
  have hD2:=hC2.adv hb2
  have hD3:=hC3.adv hb2
  have hbel2:=bel_adv hbel1 hb2
  have d0:=hD2.cell 0
  have d1:=hD2.cell 1
  have d2:=hD2.cell 2
  simp only [nqg,nqh,nqi] at d0 d1 d2
  clear hb2 hC0 hC1 hC2 hC3 hbel1 p0 p1
  go_wp2_with fail
  refine (validP xA xc xp _ (HPS0.out.adv hbel2)).mono ?_
  rintro e w2 ⟨rfl,hb2⟩
  have hE0:=hD0.adv hb2
  have hE1:=hD1.adv hb2
  have hE2:=hD2.adv hb2
  have hE3:=hD3.adv hb2
  have hbel3:=bel_adv hbel2 hb2
  have a0:=hE0.cell 0
  have a1:=hE0.cell 1
  have a2:=hE0.cell 2
  have a3:=hE0.cell 3
  simp only [nqg,nqh,nqi] at a0 a1 a2 a3
  have p0:=hE1.cell 0
  have p1:=hE1.cell 1
  simp only [nqg,nqh,nqi] at p0 p1
  clear d0 d1 d2
  have d0:=hE2.cell 0
  have d1:=hE2.cell 1
  have d2:=hE2.cell 2
  simp only [nqg,nqh,nqi] at d0 d1 d2
  clear hb2 hD0 hD1 hD2 hD3 hbel2
  have hI3:=HPS0.out.adv hbel3
  go_wp2_with fail
  refine (adjustW s pf pt xA xc xp _ hI3.s HOK.out (by omega) HADJ.out HPF.out HPT.out).mono ?_
  rintro e w3 ⟨v3,rfl,hown3,hb3⟩
  obtain ⟨A3,c3,hv3,hS3,_,_⟩:=hown3.form encIv_len
  subst hv3
  have hsl:(staysN (xp.map PresM.p)).length≤64:=by simpa [staysN] using hln
  have hF0:=hE0.adv hb3
  have hF1:=hE1.adv hb3
  have hF2:=hE2.adv hb3
  have hF3:=hE3.adv hb3
  have hbel4:=bel_adv hbel3 hb3
  clear a0 a1 a2 a3 p0 p1 d0 d1 d2 hb3 hE0 hE1 hE2 hE3 hbel3 hI3 hown3
  go_wp2_with fail
  refine (totalW A3 c3 _ _ hS3 (by omega) (fun x hx=>stays_ok HOK.out x hx)).mono ?_
  rintro e w4 ⟨rfl,hb4⟩
  obtain ⟨t1,t2⟩:=sumIv_bd (staysN (xp.map PresM.p)) (fun x hx=>stays_ok HOK.out x hx)
  have hS4:=hS3.adv hb4
  have hG0:=hF0.adv hb4
  have hG2:=hF2.adv hb4
  have hG3:=hF3.adv hb4
  have hbel5:=bel_adv hbel4 hb4
  have a0:=hG0.cell 0
  have a1:=hG0.cell 1
  have a2:=hG0.cell 2
  have a3:=hG0.cell 3
  simp only [nqg,nqh,nqi] at a0 a1 a2 a3
  have d0:=hG2.cell 0
  have d1:=hG2.cell 1
  have d2:=hG2.cell 2
  simp only [nqg,nqh,nqi] at d0 d1 d2
  clear hb4 hF0 hF1 hF2 hF3 hbel4 hS3
  have hG2l:=hG2.lt
  have hG0l:=hG0.lt
  have hI4:=HPS0.out.adv hbel5
  have HI4:=Lib.hid hI4
  have HS4:=Lib.hid hS4
  have HG2:=Lib.hid hG2
  have HG3:=Lib.hid hG3
  have HBEL5:=Lib.hid hbel5
  have hol:(brsN (xp.map PresM.p)).length≤1024:=by
   have:=brs_len xp 16 HBRL.out
   have:xp.length * 16≤64 * 16:=Nat.mul_le_mul_right 16 hln
   omega
  clear hI4 hS4 hG0 hG2 hG3 hbel5
  go_upto_region 12 with fail
  refine M3.wp_region_sel (C:=fun w'=>RowKit.Below w4.heap.size w4 w') (stable_below _ _ (Nat.le_refl _)) (Below.refl _ _) (aE:=?aE) [0,1,2,3,4] 4 (by kernel_rfl) (by kernel_rfl) rfl (by kernel_rfl) (by kernel_rfl) (by rfl) ?H ?M
  case H =>
   intro F hF inst
   simp only [M3.opsAt,List.getElem?_toArray,List.getElem?_cons_zero,List.getElem?_cons_succ]
   have e3:=BwC.cellB (F:=F) (a:=⟨w.heap.size,3,none⟩) (by exact hG0l) a3
   have f2:=BwC.cellB (F:=F) (a:=⟨w.heap.size+1+1,2,none⟩) (by exact hG2l) d2
   repeat (first | go_big_quiet_step (fail) | quiet_step (fail))
   refine wpQuiet_nil ?_
   rfl
  case M =>
   intro Q0 hQ0
   refine M3.mix_step [5] (by kernel_rfl) (by simp) ?_
   intro u1 hC1 _ i hi
   rw [List.mem_singleton] at hi
   subst hi
   have hI5:=HI4.out.adv hC1
   refine M3.mix_callD (some 48) 137 #[.slice xA xp.length xc] rfl rfl rfl (by first | rfl | go_simp) ((breaksW xA xc xp _ hI5.s hI5.i (by omega) hI5.br).mono ?_)
   rintro e u2 ⟨v6,rfl,hown6,hb6⟩
   obtain ⟨A6,c6,hv6,hS6,_,_⟩:=hown6.form encIv_len
   subst hv6
   have hC2:=bel_adv hC1 hb6
   refine ⟨_,rfl,hC2,?_⟩
   refine M3.mix_step [6] (by kernel_rfl) (by simp) ?_
   intro u3 hC3 hb3 i hi
   rw [List.mem_singleton] at hi
   subst hi
   refine M3.mix_callD (some 49) 136 #[.slice A3 (staysN (xp.map PresM.p)).length c3,.slice A6 (brsN (xp.map PresM.p)).length c6] rfl rfl rfl (by first | rfl | go_simp) ((withoutW A3 c3 _ A6 c6 _ _ (HS4.out.adv hC3) (hS6.adv hb3) hsl hol).mono ?_)
   rintro e u4 ⟨v7,rfl,hown7,hwl,hb7⟩
   obtain ⟨A7,c7,hv7,hS8,hA7,_⟩:=hown7.form encIv_len
   have HA7:Hid (∀ a,A7 = some a→a.block ≠ w.heap.size+1+1+1):=fun a ha e=>by
    have h1:=hA7 a ha
    have h2:=hC3.size
    have h3:=HG3.out.lt
    omega
   have HA8:Hid (∀ a,A7 = some a→w.heap.size≤a.block):=fun a ha=>by
    have h1:=hA7 a ha
    have h2:=hC3.size
    have h3:=HBEL5.out.size
    omega
   subst hv7
   have hwd:withoutN [] (brsN (xp.map PresM.p)) (staysN (xp.map PresM.p)) = workN (xp.map PresM.p):=rfl
   rw [hwd] at hwl hS8 ⊢
   have hC4:=bel_adv hC3 hb7
   refine ⟨_,rfl,hC4,?_⟩
   refine M3.mix_step [7] (by kernel_rfl) (by simp) ?_
   intro u5 hC5 hb5 i hi
   rw [List.mem_singleton] at hi
   subst hi
   obtain ⟨hwo,_⟩:=workN_ok HOK.out
   refine M3.mix_callD (some 50) 135 #[.slice none 0 0,.slice A7 (workN (xp.map PresM.p)).length c7] rfl rfl rfl (by first | rfl | go_simp) ((enforceW A7 c7 _ _ (hS8.adv hb5) (by omega) (fun x hx=>by have:=brOk_in hwo x hx; omega)).mono ?_)
   rintro e u6 ⟨rfl,hb8⟩
   have hC6:=bel_adv hC5 hb8
   refine ⟨_,rfl,hC6,?_⟩
   refine M3.mix_step [8] (by kernel_rfl) (by simp) ?_
   intro u7 hC7 hb7' i hi
   rw [List.mem_singleton] at hi
   subst hi
   refine M3.mix_valD (some 11) (.slice A7 (workN (xp.map PresM.p)).length c7) u7 rfl rfl rfl (by first | rfl | go_simp) ⟨hC7,?_⟩
   refine M3.mix_end (by kernel_rfl) ?_
   intro u8 hC8 hb8'
   refine hQ0 _ _ ?_
   have hS9:=(((hS8.adv hb5).adv hb8).adv hb7').adv hb8'
   have hK2:=HG2.out.adv hC8
   have hK3:=HG3.out.adv hC8
   have hbel9:=bel_adv HBEL5.out hC8
   clear hC1 hC2 hC3 hC4 hC5 hC6 hC7 hC8 hb6 hb3 hb7 hb5 hb8 hb7' hb8' hI5 hown6 hS6 hown7 hS8 hwo hQ0 a0 a1 a2 a3 d0 d1 d2
   try simp only [Act.put,List.setIfInBounds_toArray,List.set_cons_succ,List.set_cons_zero]
   have hgl3:=hK3.lt
   have d0:=hK2.cell 0
   have d1:=hK2.cell 1
   have d2:=hK2.cell 2
   simp only [nqg,nqh,nqi] at d0 d1 d2
   have HK3:=Lib.hid hK3
   have HS9:=Lib.hid hS9
   have HBEL9:=Lib.hid hbel9
   clear hK2 hK3 hS9 hbel9
   go_wp2_with (refine wpList_store_blk rfl _ _ _ rfl rfl (w.heap.size+1+1+1) (cs:=#[.int .i64 0,.slice none 0 0]) (vs:=#[.int .i64 xd,.slice A7 (workN (xp.map PresM.p)).length c7]) rfl rfl HK3.out rfl (by kernel_rfl) rfl ?_; intro w9 hB9 hg9)
   have hS10:=HS9.out.advG hg9 HA7.out
   have hbelF:=bel_only HBEL9.out hg9 (fun g e=>by injection e; omega)
   have q0:=hB9.cell 0
   have q1:=hB9.cell 1
   simp only [nqg,nqh,nqi] at q0 q1
   refine bodyPost_ret (v:=.tuple #[.agg #[.int .i64 xd,.slice A7 (workN (xp.map PresM.p)).length c7],.int .i64 0]) (by simp [results,Tryz.results94,go_sem,q0,q1]) rfl ⟨A7,c7,rfl,hS10,hwl,HA8.out,hbelF⟩
end
end Go.Proofs.YtopekilofdadnaaGreatDoor
namespace Go.Proofs.YtopekilofdadnaaGreatDoor
open Go.RowKit
section
set_option maxHeartbeats 8000000
set_option maxRecDepth 100000
theorem subtractT (A:Option Addr) (c:Nat) (l:List IvT) (B:Option Addr) (d:Nat) (os:List IvT) (w:World) (hS:SliceOf encIv 2 w w.heap.size A l) (hO:SliceOf encIv 2 w w.heap.size B os) (hl:l.length≤1000000) (hol:os.length≤100000000) (hv : ∀ x ∈ l,x.f < x.t) (ha:apart l os) :
  Calls Tryz.prog 56 #[.slice A l.length c,.slice B os.length d] w fun e w'=>∃ v,e = .returned v∧Own encIv 2 34 w' w.heap.size v l∧Below w.heap.size w w':=by
 have HV:=Lib.hid hv
 have HAP:=Lib.hid ha
 clear hv ha
 go_enter Tryz.func56,Tryz.ntmps56
 go_wp2
 go_loopw [5,6,13] (fun v u i wr=>∃ (k n:Nat) (V:Value),V = v∧k≤l.length∧i = .int .i64 k∧u = .int .i64 n∧n≤os.length∧Own encIv 2 34 wr w.heap.size V (l.take k)∧Below w.heap.size w wr) (fun _ _ i _=>l.length - (intOf i).toNat)
 case atStart=>exact ⟨0,0,_,rfl,by omega,rfl,rfl,by omega,by simpa using Own.nil_ _ _,Below.refl _ _⟩
 case round =>
  obtain ⟨k,n,V,rfl,hk,rfl,rfl,hn,hown,hbr⟩:=hrel
  have hbs:=hbr.size
  by_cases hlt:k < l.length
  ·
   obtain ⟨q,off,rfl,hq,hc⟩:=(hS.below hbr).at_ hlt
   have c0:=hc 0 _ rfl
   have c1:=hc 1 _ rfl
   simp only [Nat.add_zero] at c0
   have hqw:q < wr.heap.size:=by omega
   have hki:(k:Int) < (l.length:Int):=by omega
   have HT:Hid (l.take (k+1) = l.take k++[l[k]]):=by rw [Hid,List.take_succ_eq_append_getElem hlt]
   have hft:=HV.out _ (List.getElem_mem hlt)
   have HAX:=Lib.hid (fun y hy=>HAP.out _ (List.getElem_mem hlt) y hy)
   clear hc
   generalize l[k] = x at c0 c1 HT hft HAX
   obtain ⟨f,t⟩:=x
   simp only at c0 c1 hft HAX
   have hBX:=Blk.new wr 34 #[.int .i64 f,.int .i64 t]
   have hownA:=hown.alloc (.cells #[.int .i64 f,.int .i64 t] 34)
   have hbrA:=bel_alloc hbr (.cells #[.int .i64 f,.int .i64 t] 34)
   clear hown hbr
   go_wp2
   generalize hb8:wr.heap.size = b8 at hBX ⊢
   generalize wr.alloc (.cells #[.int .i64 f,.int .i64 t] 34) = W8 at hBX hownA hbrA ⊢
   have hB8w:w.heap.size≤b8:=by omega
   clear hb8 hbs
   have hW8:=hbrA.size
   have HOWN:=Lib.hid hownA
   have HBR:=Lib.hid hbrA
   have HBX:=Lib.hid hBX
   clear hownA hbrA hBX c0 c1 hqw
   go_loopw [6] (fun j wz=>∃ n2:Nat,j = .int .i64 n2∧n2≤os.length∧RowKit.Below W8.heap.size W8 wz) (fun j _=>os.length - (intOf j).toNat)
   case atStart=>exact ⟨n,rfl,hn,Below.refl _ _⟩
   case round =>
    obtain ⟨n2,rfl,hn2,hbz⟩:=hrel
    have hbzs:=hbz.size
    have hBZ:=HBX.out.adv hbz
    have hbl:=hBZ.lt
    have y0:=hBZ.cell 0
    have y1:=hBZ.cell 1
    simp only [nqg,nqh,nqi] at y0 y1
    clear hBZ
    go_upto_region 7 with fail
    go_cut [31] (fun z wx=>z = .bool (decide (n2 < os.length∧(os.getD n2 ⟨0,0⟩).t≤f))∧RowKit.Below wr.heap.size wr wx)
    case first =>
     by_cases hl2:n2 < os.length
     ·
      obtain ⟨q2,off2,rfl,hq2,hd⟩:=((hO.below (HBR.out.trans (hbz.mono hW8)))).at_ hl2
      have d1:=hd 1 _ rfl
      have hqz:q2 < wr.heap.size:=by omega
      have hn2i:(n2:Int) < (os.length:Int):=by omega
      have hn20:(0:Int)≤(n2:Int):=by omega
      have hgd:os.getD n2 ⟨0,0⟩ = os[n2]:=by rw [List.getD_eq_getElem?_getD,List.getElem?_eq_getElem hl2]; rfl
      have HGD:=Lib.hid hgd
      clear hd hgd
      generalize os[n2] = o at d1 HGD
      by_cases hto:o.t≤f
      ·
       have HB:Hid (decide (n2 < os.length∧(os.getD n2 ⟨0,0⟩).t≤f) = true):=decide_eq_true ⟨hl2,by rw [HGD.out]; exact hto⟩
       go_wp2
       go_meet
       exact ⟨by rw [HB.out],Below.refl _ _⟩
      ·
       have HB:Hid (decide (n2 < os.length∧(os.getD n2 ⟨0,0⟩).t≤f) = false):=decide_eq_false (fun e=>hto (by rw [← HGD.out]; exact e.2))
       go_wp2
       go_meet
       exact ⟨by rw [HB.out],Below.refl _ _⟩
     ·
      have hnl:¬ ((n2:Int) < (os.length:Int)):=by omega
      have HB:Hid (decide (n2 < os.length∧(os.getD n2 ⟨0,0⟩).t≤f) = false):=decide_eq_false (fun e=>hl2 e.1)
      go_wp2
      go_meet
      exact ⟨by rw [HB.out],Below.refl _ _⟩
    case rest =>
     clear y0 y1 hbl
     obtain ⟨rfl,hbc⟩:=hcut
     have hbzc:=bel_adv hbz hbc
     clear hbc
     by_cases hc6:n2 < os.length∧(os.getD n2 ⟨0,0⟩).t≤f
     ·
      have hd6:decide (n2 < os.length∧(os.getD n2 ⟨0,0⟩).t≤f) = true:=decide_eq_true hc6
      obtain ⟨hl2,hto⟩:=hc6
      rw [hd6]
      clear hd6 hto
      go_wp2
      go_roundw
      case rel=>exact ⟨n2+1,by go_num,by omega,hbzc⟩
      case measure=>simp [intOf]; omega
     ·
      have hd6:decide (n2 < os.length∧(os.getD n2 ⟨0,0⟩).t≤f) = false:=decide_eq_false hc6
      have HAP2:Hid (∀ h:n2 < os.length,t≤os[n2].f):=fun h=>by
       have h1:=HAX.out _ (List.getElem_mem h)
       rw [List.getD_eq_getElem?_getD,List.getElem?_eq_getElem h] at hc6
       simp only [Option.getD_some,not_and,h,true_implies] at hc6
       omega
      rw [hd6]
      clear hd6 hc6 HAX
      have hOZ:=HOWN.out.adv hbzc
      have hBZ:=HBX.out.adv hbzc
      have hbf:=bel_adv HBR.out hbzc
      have hbl:=hBZ.lt
      have HOZ:=Lib.hid hOZ
      have HBZ:=Lib.hid hBZ
      have HBF:=Lib.hid hbf
      have y0:=hBZ.cell 0
      have y1:=hBZ.cell 1
      simp only [nqg,nqh,nqi] at y0 y1
      clear hOZ hBZ hbz hbzc HOWN HBX HBR
      go_wp2
      refine wp_loop_rounds 1 ?_
      rw [rounds_succ]
      go_upto_region 10 with fail
      go_cut [48] (fun z wx=>z = .bool false∧RowKit.Below wc.heap.size wc wx)
      case first =>
       by_cases hl2:n2 < os.length
       ·
        obtain ⟨q2,off2,rfl,hq2,hd⟩:=(hO.below hbf).at_ hl2
        have d0:=hd 0 _ rfl
        have hto:=HAP2.out hl2
        simp only [Nat.add_zero] at d0
        have hqz:q2 < wc.heap.size:=by have:=hbf.size; omega
        have hn2i:(n2:Int) < (os.length:Int):=by omega
        have hn20:(0:Int)≤(n2:Int):=by omega
        clear hd
        generalize os[n2] = o at d0 hto
        go_quiet (fail)
        go_wp2
        go_meet
        exact ⟨congrArg Value.bool (decide_eq_false (by omega)),below_drewN (Below.refl _ _) _⟩
       ·
        have hnl:¬ ((n2:Int) < (os.length:Int)):=by omega
        go_quiet (fail)
        go_wp2
        go_meet
        exact ⟨rfl,below_drewN (Below.refl _ _) _⟩
      case rest =>
       obtain ⟨rfl,hbc⟩:=hcut
       have hOC:=HOZ.out.adv hbc
       have hBC:=HBZ.out.adv hbc
       have hbC:=bel_adv HBF.out hbc
       have hbl2:=hBC.lt
       have HOC:=Lib.hid hOC
       have HBC:=Lib.hid hbC
       have HBS:=Lib.hid hbC.size
       have htl:(l.take k).length < 4294967296:=by simp; omega
       clear y0 y1
       have y0:=hBC.cell 0
       have y1:=hBC.cell 1
       simp only [nqg,nqh,nqi] at y0 y1
       clear hOC hBC hbC hbc hbf HOZ HBZ HBF hbl
       go_wp2_with (at_builtin; go_loud (refine wpList_append_one _ _ 79 (⟨f,t⟩ : IvT) _ 16 _ infoIv Tryz.underlying79 HOC.out encIv_len (by omega) rfl (encIv_one _) htl (by omega) HBS.out (by rfl) (by rfl) (by rfl) (by rfl) (by simp) (by rfl) ?_); intro v2 w6 hown6 hg6)
       go_roundw
       case rel=>exact ⟨k+1,n2,v2,rfl,by omega,by go_num,rfl,hn2,by rw [HT.out]; exact hown6,bel_only HBC.out hg6 (fun g' hg'=>(HOC.out.block_lt hg').1)⟩
       case measure=>simp [intOf]; omega
  ·
   obtain rfl:k = l.length:=by omega
   rw [List.take_length] at hown
   have HOWN:=Lib.hid hown
   clear hown
   go_wp2
   go_ret
   exact ⟨_,rfl,HOWN.out,hbr⟩
end
end Go.Proofs.YtopekilofdadnaaGreatDoor
