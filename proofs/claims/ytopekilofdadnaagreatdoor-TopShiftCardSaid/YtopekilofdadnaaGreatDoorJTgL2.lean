/- Joined texts: TgL2 TgTi TgTj TgJ TgJ2. Conditions: as stated. -/
import Derived.Test.YtopekilofdadnaaGreatDoorJTvN
import Derived.Test.YtopekilofdadnaaGreatDoorJTgE
import Derived.Test.YtopekilofdadnaaGreatDoorJTgF
import Derived.Test.YtopekilofdadnaaGreatDoorJTgM5
namespace Go.Proofs.YtopekilofdadnaaGreatDoor
open Go.RowKit Go.Sort Go.Shelf
theorem NameOk.size {s:ByteArray} (h:NameOk s) : s.size≤24:=by
 rcases h with rfl | rfl | rfl | rfl | rfl <;> decide
theorem ascB_nm : ∀ {l:List BandT} {lo:Int},ascB lo l→∀ b ∈ l,NameOk b.name
 | [],_,_,b,hb=>by cases hb
 | x :: l,_,h,b,hb=>by
  rcases List.mem_cons.1 hb with rfl | hb
  ·
   exact h.2.2.1
  ·
   exact ascB_nm h.2.2.2 b hb
structure BandsNm (r:BandsT) : Prop where
 n:NameOk r.normal
 d:∀ b ∈ r.day,NameOk b.name
 w:∀ b ∈ r.week,NameOk b.name
theorem getD_nm {l:List BandT} (h : ∀ b ∈ l,NameOk b.name) {i:Int} (h0:0≤i) (h1:i < l.length) : NameOk (l.getD i.toNat ⟨⟨#[]⟩,0⟩).name:=by
 have hi:i.toNat < l.length:=by omega
 rw [List.getD_eq_getElem?_getD,List.getElem?_eq_getElem hi]
 exact h _ (List.getElem_mem hi)
theorem nextB_nm {r:BandsT} (h:BandsNm r) (d:DvS) (day most : Int) : NameOk (nextB r d day most).1:=by
 have h1:=findB_pos (d.days day) r.day 0
 have h2:=findB_pos (d.weeks (monN day)) r.week 0
 unfold nextB
 simp only
 split
 ·
  rename_i hp
  exact getD_nm h.d hp (by omega)
 ·
  show NameOk (if _ then _ else _)
  split
  ·
   rename_i hq
   exact getD_nm h.w hq (by omega)
  ·
   exact h.n
theorem addPc_nm {l:List PcT} {p:PcT} (h : ∀ q ∈ l,NameOk q.band) (hp:NameOk p.band) : ∀ q ∈ addPc l p,NameOk q.band:=by
 intro q hq
 unfold addPc at hq
 split at hq
 ·
  rw [List.mem_singleton] at hq
  rw [hq]; exact hp
 ·
  rename_i u hu
  split at hq
  ·
   rcases List.mem_append.1 hq with hq | hq
   ·
    exact h q (List.dropLast_subset l hq)
   ·
    rw [List.mem_singleton] at hq
    rw [hq]
    exact h u (List.mem_of_getLast? hu)
  ·
   rcases List.mem_append.1 hq with hq | hq
   ·
    exact h q hq
   ·
    rw [List.mem_singleton] at hq
    rw [hq]; exact hp
theorem divL_nm {r:BandsT} (h:BandsNm r) (day t : Int) : ∀ (k:Nat) (d:DvS) (f:Int),(∀ q ∈ d.pcs,NameOk q.band)→∀ q ∈ (divL r day t k d f).pcs,NameOk q.band
 | 0,d,f,hd=>hd
 | k+1,d,f,hd=>by
  rw [divL]
  split
  ·
   exact divL_nm h day t k _ _ (addPc_nm hd (nextB_nm h d day (t - f)))
  ·
   exact hd
theorem divN_nm {r:BandsT} (h:BandsNm r) (S:List SpT) : ∀ q ∈ divN r S,NameOk q.band:=by
 have key:∀ (S:List SpT) (d:DvS),(∀ q ∈ d.pcs,NameOk q.band)→∀ q ∈ (S.foldl (fun d s=>divL r s.day s.iv.t (s.iv.t - s.iv.f).toNat d s.iv.f) d).pcs,NameOk q.band:=by
  intro S
  induction S with
  | nil=>intro d hd; exact hd
  | cons s S ih=>intro d hd; exact ih _ (divL_nm h _ _ _ _ _ hd)
 exact key S dv0 (fun q hq=>by cases hq)
theorem pairTo_bd (L:Int) : ∀ (l:List StampT) (p:PairS) (n:Nat),PairB L p n→(∀ s ∈ l,0≤s.time∧s.time≤120968639)→PairB L (l.foldl (fun p s=>p.read L s.time s.kind) p) (n+3 * l.length)
 | [],p,n,h,_=>h
 | s :: r,p,n,h,hs=>by
  have h1:=pairTo_bd L r _ _ (h.read (hs s (by simp)) s.kind) (fun x hx=>hs x (by simp [hx]))
  rw [List.foldl_cons]
  exact h1.mono (by rw [List.length_cons]; omega)
theorem pair_an {L:Int} (hL:1≤L∧L≤10080) {l:List StampT} (h : ∀ s ∈ l,0≤s.time∧s.time≤120968639) : (pairN L l).2.length≤3 * l.length+1:=by
 have h1:=pairTo_bd L l pair0 0 ⟨hL,.inl rfl,(by decide:(0:Int)≤0∧(0:Int)≤120968639),(by decide:(0:Int)≤0∧(0:Int)≤120968639),Nat.le_refl _,Nat.le_refl _,Nat.le_refl _⟩ h
 have h2:=h1.an
 show (pairFin (pairTo L l)).an.length≤_
 unfold pairTo pairFin
 split
 ·
  omega
 ·
  show (_++[_]).length≤_
  rw [List.length_append,List.length_singleton]
  omega
theorem assign_all {z:ZoneT} {plan:List ShiftT} {sp:List IvT} {early late : Int} {Q:Int→Int→Prop} : ∀ (P:List PresT) (l:List DutyT),(∀ p ∈ P,Q (shiftOf early late sp p) (dayOf z plan (shiftOf early late sp p) p))→(∀ d ∈ l,Q d.shift d.day) →
  ∀ d ∈ P.foldl (fun l p=>putDu l (shiftOf early late sp p) (dayOf z plan (shiftOf early late sp p) p) p) l,Q d.shift d.day
 | [],l,_,hl=>hl
 | p :: P,l,hQ,hl=>by
  rw [List.foldl_cons]
  refine assign_all P _ (fun q hq=>hQ q (by simp [hq])) fun d hd=>?_
  unfold putDu at hd
  split at hd
  ·
   obtain ⟨x,hx,rfl⟩:=List.mem_map.1 hd
   split
   ·
    exact hl x hx
   ·
    exact hl x hx
  ·
   rcases List.mem_append.1 hd with hd | hd
   ·
    exact hl d hd
   ·
    rw [List.mem_singleton] at hd
    rw [hd]
    exact hQ p (by simp)
theorem putDu_len (l:List DutyT) (s d : Int) (p:PresT) : (putDu l s d p).length≤l.length+1:=by
 unfold putDu
 split <;> simp
theorem assign_len (z:ZoneT) (plan:List ShiftT) (sp:List IvT) (early late : Int) : ∀ (P:List PresT) (l:List DutyT),(P.foldl (fun l p=>putDu l (shiftOf early late sp p) (dayOf z plan (shiftOf early late sp p) p) p) l).length≤l.length+P.length
 | [],l=>by simp
 | p :: P,l=>by
  have h1:=assign_len z plan sp early late P (putDu l (shiftOf early late sp p) (dayOf z plan (shiftOf early late sp p) p) p)
  have h2:=putDu_len l (shiftOf early late sp p) (dayOf z plan (shiftOf early late sp p) p) p
  rw [List.foldl_cons,List.length_cons]
  omega
theorem spErr_le {z:ZoneT} : ∀ {plan:List ShiftT} {p:Option Int},spErr z p plan = 0→∀ s ∈ plan,begN z s+s.min≤120968640
 | [],_,_,s,hs=>by cases hs
 | x :: r,p,h,s,hs=>by
  rw [spErr_cons] at h
  split at h
  ·
   cases h
  ·
   rename_i h1
   split at h
   ·
    cases h
   ·
    rcases List.mem_cons.1 hs with rfl | hs
    ·
     omega
    ·
     exact spErr_le h s hs
theorem spans_len : ∀ (W:List WorkT) (n:Nat),(∀ x ∈ W,x.ivs.length≤n)→(spansN W).length≤W.length * n
 | [],n,_=>by simp [spansN]
 | x :: W,n,h=>by
  have h1:=spans_len W n fun y hy=>h y (by simp [hy])
  have h2:=h x (by simp)
  have h3:(spansN (x :: W)).length = x.ivs.length+(spansN W).length:=by simp [spansN]
  rw [h3,List.length_cons,Nat.succ_mul]
  omega
theorem evIn_of {w:World} {r:RulM} {B:Option Addr} {plan:List ShiftT} {A:Option Addr} {l:List EvT} {emp:Int} (hr:RulIn w r) (pS:SliceOf encSf 3 w w.heap.size B plan) (pO : ∀ s ∈ plan,ShiftOk s) (pL:plan.length≤1024)
  (eS:SliceOf encEv 7 w w.heap.size A l) (eO:EvsOk l) (hlo:r.lo≤900) (h1:(l.filter fun e=>decide (e.kind = 1)).length≤4) (h4:(l.filter fun e=>!(decide (e.kind = 1) || decide (e.kind = 3))).length≤16)
  (hadj:spErr r.z.t none plan = 0→∀ x ∈ dutN r plan l emp,planOf r.z.t plan x.shift ≠ ⟨0,0⟩→∀ p ∈ x.ps,(nearB p.stay.f (planOf r.z.t plan x.shift).f r.sn→(planOf r.z.t plan x.shift).f = p.stay.f)∧(nearB p.stay.t (planOf r.z.t plan x.shift).t r.sn→(planOf r.z.t plan x.shift).t = p.stay.t)) :
  EvIn w r B plan A l emp∧(spErr r.z.t none plan = 0→minsN (pairN r.lo (effN l emp)).1≤3600∧0≤minsN (pairN r.lo (effN l emp)).1):=by
 obtain ⟨p1,p2,p3,p4⟩:=pres_ok (emp:=emp) (L:=r.lo) eO.ok
 obtain ⟨s1,s2,s3,_⟩:=eff_ok (emp:=emp) eO.ok
 have hbr:∀ p ∈ (pairN r.lo (effN l emp)).1,p.br.length≤16:=fun p hp=>Nat.le_trans (pair_br r.lo _ p hp) (Nat.le_trans (eff_cnt (fun k=>!(decide (k = 1) || decide (k = 3))) l emp) h4)
 have hP4:(pairN r.lo (effN l emp)).1.length≤4:=Nat.le_trans p4 h1
 have han:(pairN r.lo (effN l emp)).2.length≤100000:=by
  have:=pair_an hr.lo (fun s hs=>(s1 s hs).1)
  have:=eO.len
  omega
 obtain ⟨m1,m2⟩:=mins_le (show (0:Int)≤900 by decide) p1 (fun x hx=>by have:=p2 x hx; omega)
 have hPi:(((pairN r.lo (effN l emp)).1.length:Nat) : Int)≤4:=by omega
 have hmin:minsN (pairN r.lo (effN l emp)).1≤3600:=by omega
 obtain ⟨du1,du2⟩:=assignN_ok r.z.t plan (plan.map (spOf r.z.t)) r.ea r.la (pairN r.lo (effN l emp)).1 [] 0 120968640 ⟨by simp,fun d hd=>(by cases hd),fun d hd=>(by cases hd),List.Pairwise.nil⟩ (by omega) p1
 have du1:DuOk 120968640 (dutN r plan l emp):=du1
 have du2:sumDu (dutN r plan l emp) = sumDu []+minsN (pairN r.lo (effN l emp)).1:=du2
 have hsd0:sumDu [] = 0:=rfl
 have hin:DuIn (pairN r.lo (effN l emp)).1 (dutN r plan l emp):=duties_in _ _ _ _ _ _
 have hlen:(dutN r plan l emp).length≤4:=by
  have:=assign_len r.z.t plan (plan.map (spOf r.z.t)) r.ea r.la (pairN r.lo (effN l emp)).1 []
  simp only [List.length_nil] at this
  have h:(dutN r plan l emp).length≤0+(pairN r.lo (effN l emp)).1.length:=this
  omega
 have hsd:∀ x ∈ dutN r plan l emp,(-1≤x.shift∧x.shift < plan.length)∧0≤x.day∧x.day≤84005:=by
  refine assign_all (Q:=fun s d=>(-1≤s∧s < plan.length)∧0≤d∧d≤84005) _ [] (fun p _=>?_) (fun d hd=>by cases hd)
  have hb:=belN_bd p.stay.f r.ea r.la (plan.map (spOf r.z.t))
  rw [List.length_map] at hb
  refine ⟨hb,?_⟩
  unfold dayOf
  split
  ·
   rename_i h0
   have hlt:(shiftOf r.ea r.la (plan.map (spOf r.z.t)) p).toNat < plan.length:=by unfold shiftOf at *; omega
   rw [List.getD_eq_getElem?_getD,List.getElem?_eq_getElem hlt]
   exact (pO _ (List.getElem_mem hlt)).d
  ·
   exact dayN_bd _ _
 have hps4:∀ x ∈ dutN r plan l emp,x.ps.length≤4:=fun x hx=>Nat.le_trans (len_sum hin.len x hx) hP4
 have hpbr:∀ x ∈ dutN r plan l emp,∀ p ∈ x.ps,p.br.length≤16:=fun x hx p hp=>hbr p (hin.mem x hx p hp)
 have hmn:0≤minsN (pairN r.lo (effN l emp)).1:=by
  have h5:=workN_ok p1
  have h6:=sumIv_nn h5.1
  omega
 obtain ⟨o1,o2,o3,o4,o5⟩:=sorted_ok du1 (fun d hd=>(hsd d hd).2)
 obtain ⟨q1,q2,q3⟩:=spans_ok du1 (fun d hd=>(hsd d hd).2)
 have hT:((sortedN (worksN (dutN r plan l emp))).map fun s=>s.iv.t - s.iv.f).sum≤3600:=by omega
 have hwk:∀ x ∈ worksN (dutN r plan l emp),x.ivs.length≤300∧0≤x.day∧x.day≤84005:=fun x hx=>by
  obtain ⟨hx,_⟩:=List.mem_filter.1 hx
  obtain ⟨d,hd,rfl⟩:=List.mem_map.1 hx
  exact ⟨workN_len (hps4 d hd) (hpbr d hd),(hsd d hd).2⟩
 have hwl:(worksN (dutN r plan l emp)).length≤4:=by
  have:(worksN (dutN r plan l emp)).length≤((dutN r plan l emp).map fun d=>(⟨d.day,workN d.ps⟩ : WorkT)).length:=List.length_filter_le _ _
  rw [List.length_map] at this
  omega
 obtain ⟨dv,_⟩:=divN_ok r.b.t o3
 have hdl:=dv.len
 have hpt:((pcN r plan l emp).map fun p=>p.iv.t - p.iv.f).sum = ((sortedN (worksN (dutN r plan l emp))).map fun s=>s.iv.t - s.iv.f).sum:=div_total r.b.t o3
 have hpl:(pcN r plan l emp).length≤3600:=by
  have:((pcN r plan l emp).length:Int)≤_:=hdl
  omega
 have hnm:BandsNm r.b.t:=⟨hr.b.nm,ascB_nm hr.b.da,ascB_nm hr.b.wa⟩
 refine ⟨⟨hr,pS,pO,pL,eS,eO,hbr,fun h0=>⟨fun x hx=>?_,spErr_le h0⟩,fun h0=>⟨⟨by omega,fun x hx=>by have:=(hwk x hx).1; omega,fun x hx=>(hwk x hx).2,fun s hs=>⟨(q1 s hs).1,(q1 s hs).2.1,(q1 s hs).2.2.1⟩,?_,o4,?_,by omega⟩,⟨by omega,fun p hp=>⟨(dv.ok p hp).1,(dv.ok p hp).2.1,(dv.ok p hp).2.2.1⟩,fun p hp=>(divN_nm hnm _ p hp).size⟩,
   ⟨by omega,fun p hp=>⟨⟨(dv.ok p hp).1,(dv.ok p hp).2.1,(dv.ok p hp).2.2.1⟩,(dv.ok p hp).2.2.2⟩,by show ((pcN r plan l emp).map fun p=>p.iv.t - p.iv.f).sum≤_; omega⟩⟩,⟨p3,han⟩⟩,fun _=>⟨hmin,hmn⟩⟩
 ·
  have hs:=(hsd x hx).1
  refine ⟨hs,du1.pr x hx,by have:=hps4 x hx; omega,hpbr x hx,hadj h0 x hx,?_,?_⟩
  ·
   unfold planOf
   split
   ·
    rename_i h00
    have hlt:x.shift.toNat < plan.length:=by omega
    have hm:=List.getElem_mem hlt
    rw [List.getD_eq_getElem?_getD,List.getElem?_eq_getElem hlt]
    have h5:=spErr_le h0 _ hm
    have h6:=(pO _ hm).m.1
    have h7:=firstN_bd hr.zo (plan[x.shift.toNat].day * 1440+plan[x.shift.toNat].start)
    refine .inr ⟨h7.1,?_,h5⟩
    show begN r.z.t _ < begN r.z.t _+_
    simp only [Option.getD_some]
    omega
   ·
    exact .inl rfl
  ·
   obtain ⟨_,g2⟩:=mins_le (show (0:Int)≤900 by decide) (du1.pr x hx) (fun p hp=>by have:=p2 p (hin.mem x hx p hp); omega)
   have:=hps4 x hx
   omega
 ·
  refine List.Pairwise.imp_of_mem (fun {a b} ha hb hab e=>?_) q2
  have:=q1 a ha
  have:=q1 b hb
  have:=cmpI_zero.1 e
  omega
 ·
  have:=spans_len (worksN (dutN r plan l emp)) 300 fun x hx=>(hwk x hx).1
  have h9:(worksN (dutN r plan l emp)).length * 300≤4 * 300:=Nat.mul_le_mul_right _ hwl
  omega
end Go.Proofs.YtopekilofdadnaaGreatDoor
namespace Go.Proofs.YtopekilofdadnaaGreatDoor
open Go.RowKit Go.Sort Go.Shelf
section
set_option maxHeartbeats 4000000
set_option maxRecDepth 100000
theorem neqTime (s:ByteArray) (n:Int) (w:World) : Sem.run Tryz.prog (binOp .neq 64 (.agg #[.string s,.int .i64 n]) (.agg #[.string s,.int .i64 n])) w = .ok (.bool false) w:=by
 have u0:=Tryz.underlying9
 have a0:=Tryz.isAgg9
 have z0:=Tryz.sizeOf9
 have u1:=Tryz.underlying3
 have a1:=Tryz.isAgg3
 have z1:=Tryz.sizeOf3
 have hS:Tryz.prog.underlying 64 = some (.struct (Tryz.prog.fieldsOf 64)):=by kernel_rfl
 have hp:Tryz.prog.stoodInHeld 64 = false:=by kernel_rfl
 rw [run_neq_struct,show (10000:Nat) = 9999+1 from rfl,run_equalIn_agg w 9999 64 _ _ hS hp]
 simp only [Program.fieldsOf,Tryz.underlying64]
 go_simp
theorem guardTm : Tryz.prog.eqGuardType Tryz.prog.depth 64 = false:=by kernel_rfl
theorem sameT (A B : Option Addr) (c d : Nat) (l:List TmT) (w:World) (hA:SliceOf encTm 2 w w.heap.size A l) (hB:SliceOf encTm 2 w w.heap.size B l) (hl:l.length≤1000) :
  Calls Tryz.prog 36 #[.slice A l.length c,.slice B l.length d] w fun e w'=>e = .returned (.bool true)∧Below w.heap.size w w':=by
 have hgd:=guardTm
 go_enter Tryz.func36,Tryz.ntmps36
 go_wp2
 go_loopw [5] (fun i wr=>∃ k q:Nat,k≤l.length∧i = .int .i64 k∧Hid (wr = w.drewN q)) (fun i _=>l.length - (RowKit.intOf i).toNat)
 case atStart=>exact ⟨0,0,by omega,rfl,rfl⟩
 case round =>
  obtain ⟨k,q,hk,rfl,hw⟩:=hrel
  have hx:SliceOf encTm 2 wr w.heap.size A l:=by rw [hw.out]; exact hA
  have hy:SliceOf encTm 2 wr w.heap.size B l:=by rw [hw.out]; exact hB
  by_cases hlt:k < l.length
  ·
   obtain ⟨b1,o1,rfl,h1,hc1⟩:=hx.at_ hlt
   obtain ⟨b2,o2,rfl,h2,hc2⟩:=hy.at_ hlt
   have c0:=hc1 0 _ rfl
   have c1:=hc1 1 _ rfl
   have d0:=hc2 0 _ rfl
   have d1:=hc2 1 _ rfl
   simp only [Nat.add_zero] at c0 d0
   have hki:(k:Int) < (l.length:Int):=by omega
   clear hc1 hc2
   generalize l[k] = x at c0 c1 d0 d1
   obtain ⟨nm,mn⟩:=x
   simp only at c0 c1 d0 d1
   have hq:=neqTime nm mn
   go_wp2
   go_quiet (fail)
   go_wp2
   go_roundw
   case rel=>exact ⟨k+1,q+nq,by omega,by go_num,by rw [Hid,hw.out,World.drewN_drewN]⟩
   case measure=>simp [RowKit.intOf]; omega
  ·
   go_wp2
   go_ret
   exact ⟨rfl,by rw [hw.out]; exact below_drewN (Below.refl _ _) q⟩
def SheetPost (w:World) (e:Ending) (w' : World) : Prop:=∃ A,e = .returned (RulM.mk ⟨0,none,0,[]⟩ 900 0 0 0 ⟨sNormal,A,1,[⟨sOt1,480⟩],none,0,[]⟩).val∧SliceOf encBd 2 w' w'.heap.size A [⟨sOt1,480⟩]∧Below w.heap.size w w'∧∀ a,A = some a→w.heap.size≤a.block
theorem sheetT (w:World) : Calls Tryz.prog 10 #[] w (SheetPost w):=by
 have hR:=Blk.new w 52 (rulV 0 none 0 0 0 0 0 0 ⟨#[]⟩ none 0 0 none 0 0)
 have hb0:=below_new w (.cells (rulV 0 none 0 0 0 0 0 0 ⟨#[]⟩ none 0 0 none 0 0) 52)
 simp only [rulV] at hR hb0
 have hb1:=below_new (w.alloc (.cells #[.int .i64 0,.slice none 0 0,.int .i64 0,.int .i64 0,.int .i64 0,.int .i64 0,.int .i64 0,.int .i64 0,.slice none 0 0,.string ⟨#[]⟩,.slice none 0 0,.slice none 0 0,.slice none 0 0,.slice none 0 0] 52)) (.cells #[.string ⟨#[111,116,49]⟩,.int .i64 480] 92)
 have hR1:=hR.adv hb1
 have HS1:=Lib.hid ((SliceOf.new encBd_len (w.alloc (.cells #[.int .i64 0,.slice none 0 0,.int .i64 0,.int .i64 0,.int .i64 0,.int .i64 0,.int .i64 0,.int .i64 0,.slice none 0 0,.string ⟨#[]⟩,.slice none 0 0,.slice none 0 0,.slice none 0 0,.slice none 0 0] 52)) [(⟨sOt1,480⟩ : BandT)] #[.string ⟨#[111,116,49]⟩,.int .i64 480] 92 rfl))
 rw [World.size_alloc] at HS1
 have HBEL:=Lib.hid (bel_adv hb0 hb1)
 clear hb0 hb1 hR
 go_enter Tryz.func10,Tryz.ntmps10
 go_wp2_with (refine wpList_store_blk rfl _ _ _ rfl rfl w.heap.size rfl rfl hR1 rfl (by kernel_rfl) rfl ?_; intro w6 hB6 hg6)
 have HB6:=Lib.hid hB6
 have HS6:=Lib.hid ((HS1.out.more (Nat.le_of_eq (by simp))).advG hg6 (by intro a ha; injection ha with ha; subst ha; show w.heap.size+1 ≠ w.heap.size; omega))
 have HBF:=Lib.hid (bel_only HBEL.out hg6 (fun g e=>by injection e; omega))
 clear hg6 hB6 hR1
 go_wp2
 exact bodyPost_ret (results_blk rfl rfl HB6.out Tryz.underlying52 rfl (by kernel_rfl)) rfl ⟨_,rfl,HS6.out,HBF.out,fun a e=>by injection e with e; subst e; show w.heap.size≤w.heap.size+1; omega⟩
end
end Go.Proofs.YtopekilofdadnaaGreatDoor
namespace Go.Proofs.YtopekilofdadnaaGreatDoor
open Go.RowKit Go.Sort Go.Shelf
theorem adj_of_zero {r:RulM} {plan:List ShiftT} {l:List EvT} {emp:Int} (h:r.sn = 0) : spErr r.z.t none plan = 0→∀ x ∈ dutN r plan l emp,planOf r.z.t plan x.shift ≠ ⟨0,0⟩→∀ p ∈ x.ps,(nearB p.stay.f (planOf r.z.t plan x.shift).f r.sn→(planOf r.z.t plan x.shift).f = p.stay.f)∧(nearB p.stay.t (planOf r.z.t plan x.shift).t r.sn→(planOf r.z.t plan x.shift).t = p.stay.t):=by
 intro _ x _ _ p _
 rw [h]
 unfold nearB
 exact ⟨fun hn=>by omega,fun hn=>by omega⟩
theorem dayE_ok : EvsOk dayE:=by
 refine ⟨by decide,fun x hx=>?_,by decide⟩
 simp only [dayE,List.mem_cons,List.not_mem_nil,or_false] at hx
 rcases hx with rfl | rfl
 ·
  exact ⟨by decide,by decide,by decide,by decide,by decide,fun _=>rfl,fun h=>absurd h (by decide)⟩
 ·
  exact ⟨by decide,by decide,by decide,by decide,by decide,fun _=>rfl,fun h=>absurd h (by decide)⟩
def rulS (A:Option Addr) : RulM:=⟨⟨0,none,0,[]⟩,900,0,0,0,⟨sNormal,A,1,[⟨sOt1,480⟩],none,0,[]⟩⟩
theorem rulS_in {w:World} {A:Option Addr} (h:SliceOf encBd 2 w w.heap.size A [⟨sOt1,480⟩]) : RulIn w (rulS A):=by
 refine ⟨SliceOf.nil_,⟨(by show 0≤64; omega),(by show (-840:Int)≤0∧(0:Int)≤840; omega),fun c hc=>(by cases hc),List.Pairwise.nil⟩,⟨.inl rfl,by show 1≤16; omega,by show 0≤16; omega,⟨(by show (-1:Int) < 480; omega),(by show (480:Int)≤10080; omega),.inr (.inl rfl),trivial⟩,trivial,h,SliceOf.nil_⟩,(by show (1:Int)≤900∧(900:Int)≤10080; omega),(by show (0:Int)≤0∧(0:Int)≤1440; omega),(by show (0:Int)≤0∧(0:Int)≤1440; omega),(by show (0:Int)≤0∧(0:Int)≤120; omega)⟩
section
set_option maxHeartbeats 4000000
set_option maxRecDepth 100000
def DayPost (w:World) (e:Ending) (w' : World) : Prop:=e = .returned (.slice (some ⟨w.heap.size,0,none⟩) 2 2)∧SliceOf encEv 7 w' w'.heap.size (some ⟨w.heap.size,0,none⟩) dayE∧Below w.heap.size w w'
theorem dayT (w:World) : Calls Tryz.prog 35 #[] w (DayPost w):=by
 have fin:DayPost w (.returned (.slice (some ⟨w.heap.size,0,none⟩) 2 2)) (w.alloc (.cells #[.int .i64 0,.int .i64 1,.int .i64 1,.int .i64 29454240,.int .i64 1,.int .i64 0,.int .i64 0,.int .i64 0,.int .i64 2,.int .i64 1,.int .i64 29454780,.int .i64 2,.int .i64 0,.int .i64 0] 41)) :=
  ⟨rfl,(SliceOf.new encEv_len w dayE _ 41 rfl).more (by simp),below_new _ _⟩
 have FIN:=Lib.hid fin
 clear fin
 go_enter Tryz.func35,Tryz.ntmps35
 go_wp2
 go_ret
 exact FIN.out
theorem timedT (w:World) (hL:Lens w) : Calls Tryz.prog 14 #[] w fun e w'=>e = .returned (.bool true)∧Below w.heap.size w w':=by
 go_enter Tryz.func14,Tryz.ntmps14
 go_wp2_with fail
 refine (sheetT w).mono ?_
 rintro e w1 ⟨A,rfl,hS1,hb1,_⟩
 go_wp2_with fail
 refine (dayT w1).mono ?_
 rintro e w2 ⟨rfl,hS2,hb2⟩
 have hbel2:=bel_adv hb1 hb2
 have HEV:=Lib.hid (evIn_of (w:=w2) (r:=rulS A) (B:=none) (plan:=[]) (A:=some ⟨w1.heap.size,0,none⟩) (l:=dayE) (emp:=1) (rulS_in (hS1.adv hb2)) SliceOf.nil_ (fun s hs=>(by cases hs)) (by decide) hS2 dayE_ok (by show (900:Int)≤900; omega) (by decide) (by decide) (adj_of_zero rfl)).1
 have HL2:=Lib.hid (hL.adv hbel2)
 clear hL hS1 hS2 hb1 hb2
 go_wp2_with fail
 refine (evalH (rulS A) none 0 [] (some ⟨w1.heap.size,0,none⟩) 2 dayE 1 20454 20454 w2 HEV.out HL2.out (by omega) (by omega) (by omega)).mono ?_
 rintro e w3 ⟨hb3,hcase⟩
 rcases hcase with ⟨hne,_⟩ | ⟨_,RA,rc,rows,rfl,hrt,hSR,hin⟩
 ·
  exact absurd rfl hne
 ·
  have hres:rows.map RowM.t = [⟨20454,[⟨sNormal,480⟩,⟨sOt1,60⟩],[]⟩]:=hrt.trans timed_res
  obtain ⟨x,rfl⟩ : ∃ x,rows = [x]:=by
   have:=congrArg List.length hres
   rw [List.length_map] at this
   match rows,this with
   | [x],_=>exact ⟨x,rfl⟩
  have hx:x.t = ⟨20454,[⟨sNormal,480⟩,⟨sOt1,60⟩],[]⟩:=by simpa using hres
  have hti:x.ti = [⟨sNormal,480⟩,⟨sOt1,60⟩]:=congrArg DayT.times hx
  obtain ⟨b,off,rfl,hb,hc⟩:=hSR.at_ (show 0 < [x].length by simp)
  have c1:=hc 1 _ rfl
  have hxin:=(hin x (by simp)).1
  obtain ⟨xd,xA,xc,xt,xB,xe,xa⟩:=x
  simp only at hti
  subst hti
  have hbel3:=bel_adv hbel2 hb3
  simp only [List.getElem_cons_zero,Nat.zero_mul,Nat.add_zero] at c1
  have c1:w3.cell? ⟨b,off+1,none⟩ = some (.slice xA 2 xc):=c1
  have hb2:=below_new w3 (.cells #[.string ⟨#[110,111,114,109,97,108]⟩,.int .i64 480,.string ⟨#[111,116,49]⟩,.int .i64 60] 64)
  have HSB:=Lib.hid ((SliceOf.new encTm_len w3 [(⟨sNormal,480⟩ : TmT),⟨sOt1,60⟩] #[.string ⟨#[110,111,114,109,97,108]⟩,.int .i64 480,.string ⟨#[111,116,49]⟩,.int .i64 60] 64 rfl).more (B':=(w3.alloc (.cells #[.string ⟨#[110,111,114,109,97,108]⟩,.int .i64 480,.string ⟨#[111,116,49]⟩,.int .i64 60] 64)).heap.size) (by simp))
  have HSA:=Lib.hid (SliceOf.adv (show SliceOf encTm 2 w3 w3.heap.size xA [⟨sNormal,480⟩,⟨sOt1,60⟩] from hxin) hb2)
  have HBF:=Lib.hid (bel_adv hbel3 hb2)
  clear hc hin hSR hrt hres hx hxin HEV HL2 hbel3 hb2 hb3 hbel2
  show (fun e w'=>_) _ _
  go_wp2_with fail
  refine (sameT xA (some ⟨w3.heap.size,0,none⟩) xc 2 [⟨sNormal,480⟩,⟨sOt1,60⟩] _ HSA.out HSB.out (by decide)).mono ?_
  rintro e w4 ⟨rfl,hb4⟩
  go_wp2
  go_ret
  exact ⟨rfl,bel_adv HBF.out hb4⟩
end
end Go.Proofs.YtopekilofdadnaaGreatDoor
namespace Go.Proofs.YtopekilofdadnaaGreatDoor
open Go.RowKit Go.Sort Go.Shelf
def fTm (l:List TmT) (x:ByteArray) : Option Int:=(l.find? fun t=>decide (t.name = x)).map (·.min)
def fTv (l:List TmT) (x:ByteArray) : Option Value:=(fTm l x).map (Value.int .i64)
theorem fTm_none {l:List TmT} {x:ByteArray} (h : ∀ t ∈ l,t.name ≠ x) : fTm l x = none:=by
 unfold fTm
 rw [List.find?_eq_none.2 fun t ht=>by simpa using h t ht]
 rfl
theorem fTm_cons (t:TmT) (l:List TmT) (x:ByteArray) : fTm (t :: l) x = if t.name = x then some t.min else fTm l x:=by
 unfold fTm
 rw [List.find?_cons]
 by_cases e:t.name = x
 ·
  simp [e]
 ·
  simp [e]
theorem fTm_map (c:ByteArray) (n:Int) (x:ByteArray) : ∀ (l:List TmT),fTm (l.map fun t=>if t.name = c then ⟨t.name,t.min+n⟩ else t) x = if x = c then (fTm l x).map (·+n) else fTm l x
 | []=>by simp [fTm]
 | t :: l=>by
  rw [List.map_cons,fTm_cons,fTm_cons,fTm_map c n x l]
  by_cases e:t.name = c
  ·
   rw [if_pos e]
   by_cases e2:t.name = x
   ·
    rw [if_pos e2,if_pos (by rw [← e2]; exact e),if_pos e2]; rfl
   ·
    rw [if_neg e2,if_neg e2]
  ·
   rw [if_neg e]
   by_cases e2:t.name = x
   ·
    rw [if_pos e2,if_neg (by rw [← e2]; exact e),if_pos e2]
   ·
    rw [if_neg e2,if_neg e2]
theorem fTm_snoc (t:TmT) (x:ByteArray) : ∀ (l:List TmT),(∀ u ∈ l,u.name ≠ t.name)→fTm (l++[t]) x = if x = t.name then some t.min else fTm l x
 | [],_=>by
  rw [List.nil_append,fTm_cons]
  by_cases e:x = t.name
  ·
   rw [if_pos e,if_pos e.symm]
  ·
   rw [if_neg e,if_neg (fun h=>e h.symm)]
 | u :: l,h=>by
  rw [List.cons_append,fTm_cons,fTm_cons,fTm_snoc t x l fun v hv=>h v (by simp [hv])]
  have:=h u (by simp)
  by_cases e:u.name = x
  ·
   rw [if_pos e,if_pos e,if_neg (by rw [← e]; exact this)]
  ·
   rw [if_neg e,if_neg e]
theorem fTm_some {l:List TmT} {x:ByteArray} : (fTm l x).isSome = true ↔ x ∈ l.map (·.name):=by
 unfold fTm
 rw [Option.isSome_map,List.find?_isSome,List.mem_map]
 constructor
 ·
  rintro ⟨t,h1,h2⟩; exact ⟨t,h1,by simpa using h2⟩
 ·
  rintro ⟨t,h1,h2⟩; exact ⟨t,h1,by simpa using h2⟩
theorem fTm_put (l:List TmT) (c:ByteArray) (n:Int) (x:ByteArray) : fTm (putTm l c n) x = if x = c then some ((fTm l c).getD 0+n) else fTm l x:=by
 unfold putTm
 split
 ·
  rename_i ha
  rw [fTm_map]
  by_cases e:x = c
  ·
   subst e
   rw [if_pos rfl,if_pos rfl]
   have h1:(fTm l x).isSome = true:=by
    rw [fTm_some,List.mem_map]
    obtain ⟨t,ht,h2⟩:=List.any_eq_true.1 ha
    exact ⟨t,ht,by simpa using h2⟩
   obtain ⟨v,hv⟩:=Option.isSome_iff_exists.1 h1
   rw [hv]; rfl
  ·
   rw [if_neg e,if_neg e]
 ·
  rename_i ha
  have hn:∀ u ∈ l,u.name ≠ c:=fun u hu e=>ha (List.any_eq_true.2 ⟨u,hu,by simpa using e⟩)
  rw [fTm_snoc _ _ _ hn]
  by_cases e:x = c
  ·
   subst e
   rw [if_pos rfl,if_pos rfl,fTm_none hn]; simp
  ·
   rw [if_neg e,if_neg e]
theorem putTm_bd {l:List TmT} {c:ByteArray} {n:Int} (hn:0≤n) (hc:c.size≤24) (h : ∀ t ∈ l,0≤t.min∧t.name.size≤24) : ∀ t ∈ putTm l c n,0≤t.min∧t.name.size≤24:=by
 intro t ht
 unfold putTm at ht
 split at ht
 ·
  obtain ⟨u,hu,rfl⟩:=List.mem_map.1 ht
  have:=h u hu
  split
  ·
   exact ⟨by show 0≤u.min+n; omega,this.2⟩
  ·
   exact this
 ·
  rcases List.mem_append.1 ht with ht | ht
  ·
   exact h t ht
  ·
   rw [List.mem_singleton] at ht
   subst ht
   exact ⟨hn,hc⟩
theorem fTm_le {l:List TmT} (h : ∀ t ∈ l,0≤t.min) (x:ByteArray) : 0≤(fTm l x).getD 0∧(fTm l x).getD 0≤sumTm l∧0≤sumTm l:=by
 induction l with
 | nil=>simp [fTm,sumTm]
 | cons t l ih =>
  have h1:=ih fun u hu=>h u (by simp [hu])
  have h2:=h t (by simp)
  have h3:sumTm (t :: l) = t.min+sumTm l:=by simp [sumTm]
  rw [fTm_cons,h3]
  split
  ·
   simp only [Option.getD_some]; omega
  ·
   omega
theorem fTm_self {l:List TmT} (h : (l.map (·.name)).Nodup) : ∀ t ∈ l,fTm l t.name = some t.min:=by
 induction l with
 | nil=>intro t ht; cases ht
 | cons u l ih =>
  intro t ht
  rw [List.map_cons,List.nodup_cons] at h
  rw [fTm_cons]
  rcases List.mem_cons.1 ht with rfl | ht
  ·
   rw [if_pos rfl]
  ·
   rw [if_neg (fun e=>h.1 (by rw [e]; exact List.mem_map_of_mem ht)),ih h.2 t ht]
theorem sum_names {l:List TmT} {ks:List ByteArray} (h : (l.map (·.name)).Nodup) (hk:ks.Nodup) (hm : ∀ x,x ∈ ks ↔ x ∈ l.map (·.name)) : sumTm (ks.map fun x=>⟨x,(fTm l x).getD 0⟩) = sumTm l:=by
 have hp:ks.Perm (l.map (·.name)):=(List.perm_ext_iff_of_nodup hk h).2 hm
 have h1:sumTm (ks.map fun x=>⟨x,(fTm l x).getD 0⟩) = (ks.map fun x=>(fTm l x).getD 0).sum:=by unfold sumTm; rw [List.map_map]; rfl
 rw [h1,sum_perm (hp.map _),List.map_map]
 unfold sumTm
 congr 1
 exact List.map_congr_left fun t ht=>by show (fTm l t.name).getD 0 = t.min; rw [fTm_self h t ht]; rfl
theorem sumTm_take (l:List TmT) (k:Nat) (h:k < l.length) : sumTm (l.take (k+1)) = sumTm (l.take k)+l[k].min:=by
 unfold sumTm
 rw [List.take_succ_eq_append_getElem h,List.map_append,List.sum_append]
 simp
theorem sumDays_take (l:List RowM) (k:Nat) (h:k < l.length) : sumDays ((l.take (k+1)).map RowM.t) = sumDays ((l.take k).map RowM.t)+sumTm l[k].ti:=by
 unfold sumDays
 rw [List.take_succ_eq_append_getElem h,List.map_append,List.map_append,List.sum_append]
 simp [RowM.t]
structure RowsOk (rows:List RowM) : Prop where
 len:rows.length≤100000
 day:∀ x ∈ rows,0≤x.d∧x.d≤84005
 tl:∀ x ∈ rows,x.ti.length≤4096
 tm:∀ x ∈ rows,∀ t ∈ x.ti,0≤t.min∧t.name.size≤24
 sum:sumDays (rows.map RowM.t)≤1000000
theorem sumTm_nn {l:List TmT} (h : ∀ t ∈ l,0≤t.min) : 0≤sumTm l:=(fTm_le h ⟨#[]⟩).2.2
theorem RowsOk.pre {rows:List RowM} (h:RowsOk rows) (k:Nat) : 0≤sumDays ((rows.take k).map RowM.t)∧sumDays ((rows.take k).map RowM.t)≤1000000:=by
 have nn:∀ l:List RowM,(∀ x ∈ l,∀ t ∈ x.ti,0≤t.min)→0≤sumDays (l.map RowM.t):=by
  intro l
  induction l with
  | nil=>intro _; exact Int.le_refl _
  | cons x l ih =>
   intro hl
   have h1:=ih fun y hy=>hl y (by simp [hy])
   have h2:=sumTm_nn (hl x (by simp))
   have h3:sumDays ((x :: l).map RowM.t) = sumTm x.ti+sumDays (l.map RowM.t):=by simp [sumDays,RowM.t]
   omega
 have h1:sumDays (rows.map RowM.t) = sumDays ((rows.take k).map RowM.t)+sumDays ((rows.drop k).map RowM.t):=by
  conv=>lhs; rw [← List.take_append_drop k rows]
  unfold sumDays
  rw [List.map_append,List.map_append,List.sum_append]
 have h2:=nn (rows.take k) fun x hx t ht=>(h.tm x (List.mem_of_mem_take hx) t ht).1
 have h3:=nn (rows.drop k) fun x hx t ht=>(h.tm x (List.mem_of_mem_drop hx) t ht).1
 have:=h.sum
 omega
theorem sumTm_pre {l:List TmT} (h : ∀ t ∈ l,0≤t.min) (m:Nat) : 0≤sumTm (l.take m)∧sumTm (l.take m)≤sumTm l:=by
 have h1:sumTm l = sumTm (l.take m)+sumTm (l.drop m):=by
  conv=>lhs; rw [← List.take_append_drop m l]
  unfold sumTm
  rw [List.map_append,List.sum_append]
 have h2:=sumTm_nn (l:=l.take m) fun t ht=>h t (List.mem_of_mem_take ht)
 have h3:=sumTm_nn (l:=l.drop m) fun t ht=>h t (List.mem_of_mem_drop ht)
 omega
end Go.Proofs.YtopekilofdadnaaGreatDoor
namespace Go.Proofs.YtopekilofdadnaaGreatDoor
open Go.RowKit Go.Sort Go.Shelf
def SumPost (rows:List RowM) (w:World) (e:Ending) (w' : World) : Prop :=
 ∃ A c ts,e = .returned (.slice A (List.length ts) c)∧SliceOf encTm 2 w' w'.heap.size A ts∧sumTm ts = sumDays (rows.map RowM.t)∧(∀ t ∈ ts,0≤t.min)∧ts.length≤1000000000∧Below w.heap.size w w'
theorem zeroIntJ (w:World) : (zeroValue 3).run Tryz.prog w = .ok (.int .i64 0) w:=by kernel_rfl
section
set_option maxHeartbeats 8000000
set_option maxRecDepth 100000
theorem sumJ (A:Option Addr) (c:Nat) (rows:List RowM) (w:World) (hS:SliceOf encRo 3 w w.heap.size A rows) (hI : ∀ x ∈ rows,x.In w) (hR:RowsOk rows) :
  Calls Tryz.prog 22 #[.slice A rows.length c,.int .i64 0,.int .i64 84005] w (SumPost rows w):=by
 have HR:=Lib.hid hR
 have HI:=Lib.hid hI
 have hlen:=hR.len
 have hmm:=@run_makeMap Tryz.prog
 have hm0:=MapAt.made keyS w
 have hbl0:=below_new w (.map #[] 0)
 clear hR hI
 go_enter Tryz.func22,Tryz.ntmps22
 go_wp2
 go_loopw [18] (fun i wr=>∃ (k N:Nat) (L:List TmT),k≤rows.length∧i = .int .i64 k∧MapAt keyS wr w.heap.size N (fTv L)∧N≤4096 * k∧Hid ((L.map (·.name)).Nodup)∧Hid (sumTm L = sumDays ((rows.take k).map RowM.t))∧Hid (∀ t ∈ L,0≤t.min∧t.name.size≤24)∧Below w.heap.size w wr) (fun i _=>rows.length - (RowKit.intOf i).toNat)
 case atStart=>exact ⟨0,0,[],by omega,rfl,hm0.congr (fun _ _=>rfl),by omega,List.Pairwise.nil,rfl,fun t ht=>(by cases ht),hbl0⟩
 case round =>
  clear hm0 hbl0 hmm
  obtain ⟨k,N,L,hk,rfl,hM,hN,hnd,hsum,hbd,hbr⟩:=hrel
  have hbs:=hbr.size
  have hMl:=hM.lt
  by_cases hlt:k < rows.length
  ·
   have hx:=List.getElem_mem hlt
   obtain ⟨d1,d2⟩:=HR.out.day _ hx
   have htl:=HR.out.tl _ hx
   have htm:=HR.out.tm _ hx
   obtain ⟨s1,s2⟩:=HR.out.pre k
   obtain ⟨s3,s4⟩:=HR.out.pre (k+1)
   have HT:=Lib.hid (sumDays_take rows k hlt)
   rw [HT.out] at s3 s4
   have hin:=(HI.out _ hx).1
   obtain ⟨q,off,rfl,hq,hc⟩:=(hS.below hbr).at_ hlt
   have c0:=hc 0 _ rfl
   have c1:=hc 1 _ rfl
   have c2:=hc 2 _ rfl
   simp only [Nat.add_zero] at c0
   have hqw:q < wr.heap.size:=by omega
   have hki:(k:Int) < (rows.length:Int):=by omega
   clear hc hx
   generalize rows[k] = x at c0 c1 c2 HT d1 d2 htl htm hin s3 s4
   obtain ⟨xd,xA,xc,xt,xB,xe,xa⟩:=x
   simp only at c0 c1 c2 HT d1 d2 htl htm hin s3 s4
   generalize sumDays ((rows.take k).map RowM.t) = S at s1 s2 s3 s4 HT hsum
   have n1:decide (xd < 0) = false:=by simp; omega
   have n2:decide (84005 < xd) = false:=by simp; omega
   have HTM:=Lib.hid htm
   have HIN:=Lib.hid hin
   have hbA:=below_new wr (.cells #[.int .i64 xd,.slice xA xt.length xc,.slice xB xa.length xe] 62)
   have HMA:=Lib.hid (hM.adv hbA)
   have HBA:=Lib.hid (bel_adv hbr hbA)
   clear htm hin hM hbr hbA
   go_wp2
   clear n1 n2
   generalize wr.alloc (.cells #[.int .i64 xd,.slice xA xt.length xc,.slice xB xa.length xe] 62) = wA at HMA HBA ⊢
   clear c0 c1 c2
   go_loopw [35] (fun j wz=>∃ (m N:Nat) (L:List TmT),m≤xt.length∧j = .int .i64 m∧Hid (MapAt keyS wz w.heap.size N (fTv L))∧N≤4096 * k+m∧Hid ((L.map (·.name)).Nodup)∧Hid (sumTm L = S+sumTm (xt.take m))∧Hid (∀ t ∈ L,0≤t.min∧t.name.size≤24)∧Hid (Below w.heap.size w wz)) (fun j _=>xt.length - (RowKit.intOf j).toNat)
   case atStart=>exact ⟨0,N,L,by omega,rfl,HMA,by omega,hnd,by rw [Hid,hsum.out]; simp [sumTm],hbd,HBA⟩
   case round =>
    clear HMA HBA hnd hsum hbd hN
    obtain ⟨m,N,L,hm,rfl,HM,hN,hnd,hsum,hbd,HB⟩:=hrel
    have hbs:=HB.out.size
    by_cases hmt:m < xt.length
    ·
     obtain ⟨t1,t2⟩:=HTM.out _ (List.getElem_mem hmt)
     obtain ⟨p1,p2⟩:=sumTm_pre (fun t ht=>(HTM.out t ht).1) m
     obtain ⟨p3,p4⟩:=sumTm_pre (fun t ht=>(HTM.out t ht).1) (m+1)
     have HT2:=Lib.hid (sumTm_take xt m hmt)
     rw [HT2.out] at p3 p4
     obtain ⟨q2,off2,rfl,hq2,hc⟩:=(HIN.out.below HB.out).at_ hmt
     have c0:=hc 0 _ rfl
     have c1:=hc 1 _ rfl
     simp only [Nat.add_zero] at c0
     have hqw2:q2 < wr.heap.size:=by omega
     have hmi:(m:Int) < (xt.length:Int):=by omega
     clear hc
     generalize xt[m] = t at c0 c1 t1 t2 HT2 p3 p4
     obtain ⟨tn,tm⟩:=t
     simp only at c0 c1 t1 t2 HT2 p3 p4
     have HG:Hid (keyS.good tn):=by show tn.size≤maxLen; unfold maxLen; omega
     obtain ⟨f1,f2,f3⟩:=fTm_le (fun t ht=>(hbd.out t ht).1) tn
     rw [hsum.out] at f2 f3
     generalize sumTm (xt.take m) = P at p1 p2 p3 p4 HT2 hsum f2 f3
     generalize sumTm xt = X at p2 p4 s3 s4 HT
     obtain ⟨V,hV⟩ : ∃ V,(fTm L tn).getD 0 = V:=⟨_,rfl⟩
     rw [hV] at f1 f2
     have HV:Hid ((fTv L tn).getD (.int .i64 0) = .int .i64 V):=by
      rw [Hid,← hV]
      unfold fTv
      cases fTm L tn <;> rfl
     have HN1:Hid (fTv (putTm L tn tm) tn = some (.int .i64 (V+tm))):=by
      rw [Hid,fTv,fTm_put,if_pos rfl,hV]
      rfl
     have HN2:Hid (∀ y,y ≠ tn→fTv (putTm L tn tm) y = fTv L y):=fun y hy=>by rw [fTv,fTm_put,if_neg hy]; rfl
     have hbT:=below_new wr (.cells #[.string tn,.int .i64 tm] 64)
     have hMT:=HM.out.adv hbT
     have HBT:=Lib.hid (bel_adv HB.out hbT)
     obtain ⟨HND,HSU⟩:=putTm_ok (c:=tn) (n:=tm) hnd.out
     have HND:=Lib.hid HND
     have HSU:=Lib.hid HSU
     have HBD:=Lib.hid (putTm_bd t1 t2 hbd.out)
     clear hbT hV
     go_wp2_with (first
      | (at_lookup; go_loud (refine wpList_get (E:=keyS) (f:=fTv L) (by rfl) _ _ 138 (by rfl) Tryz.underlying138 _ (zeroIntJ _) hMT tn HG.out (by rfl) (by rfl) _ HV.out ?_))
      | (at_mapUpdate; go_loud (refine wpList_set (E:=keyS) (f:=fTv L) (fTv (putTm L tn tm)) (by rfl) _ _ _ 138 (by rfl) Tryz.underlying138 hMT (by unfold maxLen; omega) tn HG.out (.int .i64 (V+tm)) (by rfl) (by rfl) (by rfl) HN1.out HN2.out ?_); intro w4 hm4 hg4))
     have HB4:=Lib.hid (bel_only HBT.out hg4 (fun g e=>by injection e; omega))
     clear hg4
     go_roundw
     case rel=>exact ⟨m+1,N+1,_,by omega,by go_num,hm4,by omega,HND,by rw [Hid,HSU.out,hsum.out,HT2.out]; omega,HBD,HB4⟩
     case measure=>simp [RowKit.intOf]; omega
    ·
     obtain rfl:m = xt.length:=by omega
     have hsu:=hsum.out
     rw [List.take_length,← HT.out] at hsu
     have HSU:=Lib.hid hsu
     clear hsu
     go_wp2
     go_roundw
     case rel=>exact ⟨k+1,N,L,by omega,by go_num,HM.out,by omega,hnd,HSU,hbd,HB.out⟩
     case measure=>simp [RowKit.intOf]; omega
  ·
   obtain rfl:k = rows.length:=by omega
   have hsu:=hsum.out
   rw [List.take_length] at hsu
   have HSU:=Lib.hid hsu
   have HM:=Lib.hid hM
   have hN':N≤4294967296:=by omega
   clear hsu hsum
   go_wp2_with fail
   refine (keysN_in _ _).mono ?_
   rintro e w8 ⟨rfl,rfl⟩
   have hb8:=below_new wr (.cells #[.map (some w.heap.size)] 138)
   go_wp2_with fail
   refine (sortedN_ wr hM hN').mono ?_
   rintro e w9 ⟨v,ks,rfl,hknd,hkm,hown,hb9,hkl⟩
   have hb9':=bel_adv hb8 hb9
   have HM9:=Lib.hid (HM.out.adv hb9')
   have HB9:=Lib.hid (bel_adv hbr hb9')
   obtain ⟨KA,kc,hv,hSK,_,_⟩:=hown.form (fun _=>rfl)
   subst hv
   have HSK:=Lib.hid hSK
   have hmem:∀ x,x ∈ ks ↔ x ∈ L.map (·.name):=fun x=>by
    rw [hkm x,fTv,Option.isSome_map,fTm_some]
    constructor
    ·
     exact fun h=>h.2
    ·
     intro h
     obtain ⟨t,ht,rfl⟩:=List.mem_map.1 h
     exact ⟨by have:=(hbd.out t ht).2; unfold maxLen; omega,h⟩
   have HSN:=Lib.hid (sum_names hnd.out hknd hmem)
   have HGK:Hid (∀ x ∈ ks,keyS.good x):=fun x hx=>((hkm x).1 hx).1
   have hkl2:ks.length≤1000000000:=by omega
   clear hM hb8 hb9 hb9' hown hSK hmem hknd hkm hkl
   go_wp2
   go_loopw [12,52] (fun r i wz=>∃ (k:Nat) (V:Value),V = r∧k≤ks.length∧i = .int .i64 k∧Own encTm 2 64 wz w9.heap.size V ((ks.take k).map fun x=>⟨x,(fTm L x).getD 0⟩)∧Below w9.heap.size w9 wz) (fun _ i _=>ks.length - (RowKit.intOf i).toNat)
   case atStart=>exact ⟨0,_,rfl,by omega,rfl,Own.nil_ _ _,Below.refl _ _⟩
   case round =>
    obtain ⟨k,V,rfl,hk,rfl,hor,hbz⟩:=hrel
    have hbzs:=hbz.size
    by_cases hlt:k < ks.length
    ·
     have hg:=HGK.out _ (List.getElem_mem hlt)
     have HT:Hid (ks.take (k+1) = ks.take k++[ks[k]]):=List.take_succ_eq_append_getElem hlt
     obtain ⟨q,off,rfl,hq,hc⟩:=(HSK.out.below hbz).at_ hlt
     have c0:=hc 0 _ rfl
     simp only [Nat.add_zero,Nat.mul_one] at c0
     have hqw:q < wr.heap.size:=by omega
     have hki:(k:Int) < (ks.length:Int):=by omega
     have hMz:=HM9.out.adv hbz
     have hll:((ks.take k).map fun x=>(⟨x,(fTm L x).getD 0⟩ : TmT)).length≤1000000000:=by simp; omega
     clear hc
     generalize ks[k] = x at c0 hg HT
     obtain ⟨V2,hV⟩ : ∃ V2,(fTm L x).getD 0 = V2:=⟨_,rfl⟩
     have HV:Hid ((fTv L x).getD (.int .i64 0) = .int .i64 V2):=by
      rw [Hid,← hV]
      unfold fTv
      cases fTm L x <;> rfl
     have HVE:=Lib.hid hV
     have HG:=Lib.hid hg
     have HOR:=Lib.hid hor
     clear hV hg hor
     go_wp2_with (first
      | (at_lookup; go_loud (refine wpList_get (E:=keyS) (f:=fTv L) (by rfl) _ _ 138 (by rfl) Tryz.underlying138 _ (zeroIntJ _) hMz x HG.out (by rfl) (by rfl) _ HV.out ?_))
      | (at_builtin; go_loud (refine wpList_append_one _ _ 59 (⟨x,V2⟩ : TmT) _ 24 _ infoTm Tryz.underlying59 HOR.out encTm_len (by omega) rfl (encTm_one _) (by omega) (by omega) (by omega) (by rfl) (by rfl) (by rfl) (by rfl) (by simp) (by rfl) ?_); intro v2 w6 hown6 hg6))
     have hbz6:=bel_only hbz hg6 (fun g hg=>(HOR.out.block_lt hg).1)
     clear hg6
     go_roundw
     case rel=>exact ⟨k+1,_,rfl,by omega,by go_num,by rw [HT.out,List.map_append]; simp only [List.map_cons,List.map_nil]; rw [HVE.out]; exact hown6,hbz6⟩
     case measure=>simp [RowKit.intOf]; omega
    ·
     obtain rfl:k = ks.length:=by omega
     rw [List.take_length] at hor
     obtain ⟨RA,rc,hv,hSR,_,_⟩:=hor.form encTm_len
     subst hv
     have hfin:SumPost rows w (.returned (.slice RA (ks.map fun x=>(⟨x,(fTm L x).getD 0⟩ : TmT)).length rc)) wr :=
      ⟨RA,rc,_,rfl,hSR,HSN.out.trans HSU.out,fun t ht=>by
       obtain ⟨x,_,rfl⟩:=List.mem_map.1 ht
       exact (fTm_le (fun t ht=>(hbd.out t ht).1) x).1,by simpa using hkl2,bel_adv HB9.out hbz⟩
     have HF:=Lib.hid hfin
     clear hfin hSR hor
     go_wp2
     go_ret
     exact HF.out
end
end Go.Proofs.YtopekilofdadnaaGreatDoor
