/- Joined texts: G33b G33c G33d. Conditions: as stated. -/
import Derived.Test.YtlhkojcmcmkmaaaGreatJData
import Derived.Test.YtlhkojcmcmkmaaaGreatJLeaf
import Derived.Test.YtlhkojcmcmkmaaaGreatJP32
import Derived.Test.YtlhkojcmcmkmaaaGreatJG33
namespace Go.Proofs.YtlhkojcmcmkmaaaGreat
open Go.RowKit
theorem empS_take (l:List SchT) (k:Nat) (h:k < l.length) : empS (l.take (k+1)) = empS (l.take k)+l[k].employee:=by
 unfold empS; rw [List.take_succ_eq_append_getElem h,List.map_append,sumI_append]; simp [sumI]
theorem unitS_take (l:List SchT) (k:Nat) (h:k < l.length) : unitS (l.take (k+1)) = unitS (l.take k)+l[k].unit:=by
 unfold unitS; rw [List.take_succ_eq_append_getElem h,List.map_append,sumI_append]; simp [sumI]
theorem maxR_take (l:List BrT) (k:Nat) (h:k < l.length) : maxR (l.take (k+1)) = max (maxR (l.take k)) l[k].rate:=by
 unfold maxR; rw [List.take_succ_eq_append_getElem h,List.foldl_append]; rfl
theorem maxR_bd {l:List BrT} (h : ∀ b ∈ l,b.rate≤1000000) : maxR l≤1000000:=by
 have key:∀ (l:List BrT) (m:Int),m≤1000000→(∀ b ∈ l,b.rate≤1000000)→l.foldl (fun m b=>max m b.rate) m≤1000000:=by
  intro l
  induction l with
  | nil=>intro m hm _; exact hm
  | cons a l ih =>
   intro m hm hb
   rw [List.foldl_cons]
   exact ih _ (by have:=hb a (by simp); omega) (fun b hb'=>hb b (by simp [hb']))
 exact key l 0 (by omega) h
theorem empS_bd {l:List SchT} (h : ∀ s ∈ l,0≤s.employee∧s.employee≤1000000) (hl:l.length≤12) : 0≤empS l∧empS l≤12000000:=by
 have e2:=sumI_bd (l:=l.map fun s=>s.employee) (B:=1000000) (fun v hv=>by obtain ⟨s,hs,rfl⟩:=List.mem_map.1 hv; exact h s hs)
 rw [List.length_map] at e2
 unfold empS; omega
theorem unitS_bd {l:List SchT} (h : ∀ s ∈ l,0≤s.unit∧s.unit≤100) (hl:l.length≤12) : 0≤unitS l∧unitS l≤1200:=by
 have e2:=sumI_bd (l:=l.map fun s=>s.unit) (B:=100) (fun v hv=>by obtain ⟨s,hs,rfl⟩:=List.mem_map.1 hv; exact h s hs)
 rw [List.length_map] at e2
 unfold unitS; omega
theorem BrOk.mem_rate {l:List BrT} (h:BrOk l) : ∀ b ∈ l,0≤b.rate∧b.rate≤1000000:=fun b hb=>by
 obtain ⟨i,hi,rfl⟩:=List.getElem_of_mem hb
 have h0:=h.r0 i hi
 have h1:=h.r1 i hi
 rw [List.getD_eq_getElem?_getD,List.getElem?_eq_getElem hi] at h0 h1
 exact ⟨h0,h1⟩
set_option maxRecDepth 100000 in
set_option maxHeartbeats 4000000 in
theorem leviesG (m:RulesM) (w:World) (h:m.In w) (hR:RulesOk m.t) : Calls Tryz.prog 121 #[m.val] w fun e w'=>e = .returned (.int .i64 (leviesR m.t))∧Below w.heap.size w w':=by
 have hsl:m.ss.length≤12:=hR.nsch
 have hbl:m.tm.t.brs.length≤24:=hR.tar.brs.len
 have HSB:Hid (∀ s ∈ m.ss,0≤s.employee∧s.employee≤1000000):=fun s hs=>⟨(hR.sch s hs).e0,(hR.sch s hs).e1⟩
 have HBB:Hid (∀ b ∈ m.tm.t.brs,0≤b.rate∧b.rate≤1000000):=hR.tar.brs.mem_rate
 have HEB:Hid (∀ k,0≤empS (m.ss.take k)∧empS (m.ss.take k)≤12000000):=fun k=>empS_bd (fun s hs=>HSB.out s (List.mem_of_mem_take hs)) (by rw [List.length_take]; omega)
 have HMB:Hid (∀ k,0≤maxR (m.tm.t.brs.take k)∧maxR (m.tm.t.brs.take k)≤1000000):=fun k=>⟨(maxR_ge _).1,maxR_bd fun b hb=>(HBB.out b (List.mem_of_mem_take hb)).2⟩
 have HLV:Hid (leviesR m.t = empS (m.ss.take m.ss.length)+maxR (m.tm.t.brs.take m.tm.t.brs.length)):=by rw [Hid,List.take_length,List.take_length]; rfl
 clear hR
 unfold RulesM.val
 go_enter Tryz.func121,Tryz.ntmps121
 have hB:=Blk.new w 45 #[.slice m.Aw m.ws.length m.cw,.slice m.As m.ss.length m.cs,.int .i64 m.tm.t.method,.slice m.tm.Ab m.tm.t.brs.length m.tm.cb,.int .i64 m.tm.t.allowance,.int .i64 m.tm.t.credit,.int .i64 m.tm.t.unit,.int .i64 m.tm.t.mode,.slice m.tm.Ar m.tm.t.rows.length m.tm.cr,.int .i64 m.count,.int .i64 m.sh.fixed,.int .i64 m.sh.dependent,.int .i64 m.sh.lower,.int .i64 m.sh.share,.int .i64 m.sh.top,.int .i64 m.recover]
 have hbel:=below_new w (.cells #[.slice m.Aw m.ws.length m.cw,.slice m.As m.ss.length m.cs,.int .i64 m.tm.t.method,.slice m.tm.Ab m.tm.t.brs.length m.tm.cb,.int .i64 m.tm.t.allowance,.int .i64 m.tm.t.credit,.int .i64 m.tm.t.unit,.int .i64 m.tm.t.mode,.slice m.tm.Ar m.tm.t.rows.length m.tm.cr,.int .i64 m.count,.int .i64 m.sh.fixed,.int .i64 m.sh.dependent,.int .i64 m.sh.lower,.int .i64 m.sh.share,.int .i64 m.sh.top,.int .i64 m.recover] 45)
 go_upto_region 1 with fail
 generalize w.alloc (Obj.cells _ _) = W at hB hbel ⊢
 have z1:W.cell? ⟨w.heap.size,1,none⟩ = some (.slice m.As m.ss.length m.cs):=hB.cell 1
 have hs1:=h.ss.adv hbel
 have hs2:=h.tm.brs.adv hbel
 go_wp2_with fail
 go_loopw [3,12] (fun s i wr=>∃ k:Nat,k≤m.ss.length∧i = .int .i64 k∧s = .int .i64 (empS (m.ss.take k))∧Below W.heap.size W wr) (fun _ i _=>m.ss.length - (intOf i).toNat)
 case atStart=>exact ⟨0,by omega,rfl,rfl,Below.refl _ _⟩
 case round =>
  rename World=>wr
  obtain ⟨k,hk,rfl,rfl,hb4⟩:=hrel
  obtain ⟨q0,q1⟩:=HEB.out k
  by_cases hlt:k < m.ss.length
  ·
   obtain ⟨b,off,hA,hb,hc⟩:=(hs1.adv hb4).at_ hlt
   have c0:=hc 0 _ rfl
   have c1:=hc 1 _ rfl
   have c2:=hc 2 _ rfl
   have c3:=hc 3 _ rfl
   have c4:=hc 4 _ rfl
   have c5:=hc 5 _ rfl
   have c6:=hc 6 _ rfl
   have c7:=hc 7 _ rfl
   simp only [Nat.add_zero] at c0
   have hki:(k:Int) < (m.ss.length:Int):=by omega
   have HT:=Lib.hid (empS_take m.ss k hlt)
   obtain ⟨x0,x1⟩:=HSB.out _ (List.getElem_mem hlt)
   clear hc z1
   rw [hA]
   generalize m.ss[k] = x at *
   generalize empS (m.ss.take k) = q at *
   have hBo:=Blk.new wr 123 #[.string x.code,.int .i64 x.employee,.int .i64 x.employer,.int .i64 x.floor,.int .i64 x.ceiling,.int .i64 x.unit,.int .i64 x.mode,.bool x.deductible]
   have hbn:=below_new wr (.cells #[.string x.code,.int .i64 x.employee,.int .i64 x.employer,.int .i64 x.floor,.int .i64 x.ceiling,.int .i64 x.unit,.int .i64 x.mode,.bool x.deductible] 123)
   go_upto_region 5 with fail
   generalize wr.alloc (Obj.cells _ _) = W1 at hBo hbn ⊢
   have p1:W1.cell? ⟨wr.heap.size,1,none⟩ = some (.int .i64 x.employee):=hBo.cell 1
   have hb5:=bel_adv hb4 hbn
   clear c0 c1 c2 c3 c4 c5 c6 c7 hbn hb4
   go_wp2
   go_roundw
   case rel=>exact ⟨k+1,by omega,by go_num,by rw [HT.out],hb5⟩
   case measure=>simp [intOf]; omega
  ·
   obtain rfl:k = m.ss.length:=by omega
   have z3:wr.cell? ⟨w.heap.size,3,none⟩ = some (.slice m.tm.Ab m.tm.t.brs.length m.tm.cb):=(hb4.cell (p:=⟨w.heap.size,3,none⟩) hB.lt).trans (hB.cell 3)
   have hbw:=bel_adv hbel hb4
   have hs3:=hs2.adv hb4
   clear z1 hs1 hs2 hb4 hbel
   have HQ:=Lib.hid (HEB.out m.ss.length)
   generalize hq:empS (m.ss.take m.ss.length) = q at *
   clear hq
   go_wp2_with fail
   go_loopw [4,25] (fun s i wx=>∃ k:Nat,k≤m.tm.t.brs.length∧i = .int .i64 k∧s = .int .i64 (maxR (m.tm.t.brs.take k))∧Below wr.heap.size wr wx) (fun _ i _=>m.tm.t.brs.length - (intOf i).toNat)
   case atStart=>exact ⟨0,by omega,rfl,rfl,Below.refl _ _⟩
   case round =>
    rename World=>wx
    obtain ⟨k,hk2,rfl,rfl,hb4⟩:=hrel
    obtain ⟨r0,r1⟩:=HMB.out k
    by_cases hlt:k < m.tm.t.brs.length
    ·
     obtain ⟨b,off,hA,hb,hc⟩:=(hs3.adv hb4).at_ hlt
     have c0:=hc 0 _ rfl
     have c1:=hc 1 _ rfl
     simp only [Nat.add_zero] at c0
     have hki:(k:Int) < (m.tm.t.brs.length:Int):=by omega
     have HT:=Lib.hid (maxR_take m.tm.t.brs k hlt)
     clear hc z3
     rw [hA]
     generalize m.tm.t.brs[k] = x at *
     generalize maxR (m.tm.t.brs.take k) = p at *
     have hBo:=Blk.new wx 127 #[.int .i64 x.frm,.int .i64 x.rate]
     have hbn:=below_new wx (.cells #[.int .i64 x.frm,.int .i64 x.rate] 127)
     go_upto_region 10 with fail
     generalize wx.alloc (Obj.cells _ _) = W1 at hBo hbn ⊢
     have p1:W1.cell? ⟨wx.heap.size,1,none⟩ = some (.int .i64 x.rate):=hBo.cell 1
     have hb5:=bel_adv hb4 hbn
     clear c0 c1 hbn hb4
     by_cases hpx:p < x.rate
     all_goals
      go_wp2
      go_roundw
      case rel=>exact ⟨k+1,by omega,by go_num,by rw [HT.out],hb5⟩
      case measure=>simp [intOf]; omega
    ·
     obtain rfl:k = m.tm.t.brs.length:=by omega
     go_wp2
     go_ret
     have h5:=HMB.out m.tm.t.brs.length
     have h6:=HQ.out
     rw [List.take_length] at h5
     exact ⟨by rw [HLV.out]; simp [go_sem]; unfold wrap64; omega,bel_adv hbw hb4⟩
end Go.Proofs.YtlhkojcmcmkmaaaGreat
namespace Go.Proofs.YtlhkojcmcmkmaaaGreat
open Go.RowKit
set_option maxRecDepth 100000 in
set_option maxHeartbeats 4000000 in
theorem windowG (m:RulesM) (w:World) (h:m.In w) (hR:RulesOk m.t) (hlv:leviesR m.t≤900000) : Calls Tryz.prog 78 #[m.val] w fun e w'=>e = .returned (.int .i64 (windR m.t))∧Below w.heap.size w w':=by
 have hsl:m.ss.length≤12:=hR.nsch
 have u0:1≤m.tm.t.unit:=hR.tar.u0
 have u1:m.tm.t.unit≤100:=hR.tar.u1
 have HSB:Hid (∀ s ∈ m.ss,0≤s.unit∧s.unit≤100):=fun s hs=>⟨by have:=(hR.sch s hs).u0; omega,(hR.sch s hs).u1⟩
 have HUB:Hid (∀ k,0≤unitS (m.ss.take k)∧unitS (m.ss.take k)≤1200):=fun k=>unitS_bd (fun s hs=>HSB.out s (List.mem_of_mem_take hs)) (by rw [List.length_take]; omega)
 have HMV:Hid (movedR m.t = m.tm.t.unit+2+unitS (m.ss.take m.ss.length)):=by rw [Hid,List.take_length]; rfl
 have HLB:Hid (0≤leviesR m.t):=by
  have h1:=(empS_bd (l:=m.ss) (fun s hs=>⟨(hR.sch s hs).e0,(hR.sch s hs).e1⟩) hsl).1
  have h2:=(maxR_ge m.tm.t.brs).1
  have h3:leviesR m.t = empS m.ss+maxR m.tm.t.brs:=rfl
  rw [Hid]; omega
 have HLE:Hid (∀ W,Below w.heap.size w W→Calls Tryz.prog 121 #[.agg #[.slice m.Aw m.ws.length m.cw,.slice m.As m.ss.length m.cs,.int .i64 m.tm.t.method,.slice m.tm.Ab m.tm.t.brs.length m.tm.cb,.int .i64 m.tm.t.allowance,.int .i64 m.tm.t.credit,.int .i64 m.tm.t.unit,.int .i64 m.tm.t.mode,.slice m.tm.Ar m.tm.t.rows.length m.tm.cr,.int .i64 m.count,.int .i64 m.sh.fixed,.int .i64 m.sh.dependent,.int .i64 m.sh.lower,.int .i64 m.sh.share,.int .i64 m.sh.top,.int .i64 m.recover]] W fun e w'=>e = .returned (.int .i64 (leviesR m.t))∧Below W.heap.size W w'):=fun W hb=>leviesG m W (h.adv hb) hR
 clear hR
 unfold RulesM.val
 go_enter Tryz.func78,Tryz.ntmps78
 have hB:=Blk.new w 45 #[.slice m.Aw m.ws.length m.cw,.slice m.As m.ss.length m.cs,.int .i64 m.tm.t.method,.slice m.tm.Ab m.tm.t.brs.length m.tm.cb,.int .i64 m.tm.t.allowance,.int .i64 m.tm.t.credit,.int .i64 m.tm.t.unit,.int .i64 m.tm.t.mode,.slice m.tm.Ar m.tm.t.rows.length m.tm.cr,.int .i64 m.count,.int .i64 m.sh.fixed,.int .i64 m.sh.dependent,.int .i64 m.sh.lower,.int .i64 m.sh.share,.int .i64 m.sh.top,.int .i64 m.recover]
 have hbel:=below_new w (.cells #[.slice m.Aw m.ws.length m.cw,.slice m.As m.ss.length m.cs,.int .i64 m.tm.t.method,.slice m.tm.Ab m.tm.t.brs.length m.tm.cb,.int .i64 m.tm.t.allowance,.int .i64 m.tm.t.credit,.int .i64 m.tm.t.unit,.int .i64 m.tm.t.mode,.slice m.tm.Ar m.tm.t.rows.length m.tm.cr,.int .i64 m.count,.int .i64 m.sh.fixed,.int .i64 m.sh.dependent,.int .i64 m.sh.lower,.int .i64 m.sh.share,.int .i64 m.sh.top,.int .i64 m.recover] 45)
 go_upto_region 1 with fail
 generalize w.alloc (Obj.cells _ _) = W at hB hbel ⊢
 have z1:W.cell? ⟨w.heap.size,1,none⟩ = some (.slice m.As m.ss.length m.cs):=hB.cell 1
 have z6:W.cell? ⟨w.heap.size,6,none⟩ = some (.int .i64 m.tm.t.unit):=hB.cell 6
 have hs1:=h.ss.adv hbel
 obtain ⟨u,hu⟩ : ∃ u,u = m.tm.t.unit:=⟨_,rfl⟩
 rw [← hu] at u0 u1 z6 HMV
 clear hu
 go_wp2_with fail
 go_loopw [3,13] (fun s i wr=>∃ k:Nat,k≤m.ss.length∧i = .int .i64 k∧s = .int .i64 (u+2+unitS (m.ss.take k))∧Below W.heap.size W wr) (fun _ i _=>m.ss.length - (intOf i).toNat)
 case atStart=>exact ⟨0,by omega,rfl,by simp [unitS,sumI],Below.refl _ _⟩
 case round =>
  rename World=>wr
  obtain ⟨k,hk,rfl,rfl,hb4⟩:=hrel
  obtain ⟨q0,q1⟩:=HUB.out k
  by_cases hlt:k < m.ss.length
  ·
   obtain ⟨b,off,hA,hb,hc⟩:=(hs1.adv hb4).at_ hlt
   have c0:=hc 0 _ rfl
   have c1:=hc 1 _ rfl
   have c2:=hc 2 _ rfl
   have c3:=hc 3 _ rfl
   have c4:=hc 4 _ rfl
   have c5:=hc 5 _ rfl
   have c6:=hc 6 _ rfl
   have c7:=hc 7 _ rfl
   simp only [Nat.add_zero] at c0
   have hki:(k:Int) < (m.ss.length:Int):=by omega
   have HT:=Lib.hid (unitS_take m.ss k hlt)
   obtain ⟨x0,x1⟩:=HSB.out _ (List.getElem_mem hlt)
   clear hc z1
   rw [hA]
   generalize m.ss[k] = x at *
   generalize unitS (m.ss.take k) = q at *
   have hBo:=Blk.new wr 123 #[.string x.code,.int .i64 x.employee,.int .i64 x.employer,.int .i64 x.floor,.int .i64 x.ceiling,.int .i64 x.unit,.int .i64 x.mode,.bool x.deductible]
   have hbn:=below_new wr (.cells #[.string x.code,.int .i64 x.employee,.int .i64 x.employer,.int .i64 x.floor,.int .i64 x.ceiling,.int .i64 x.unit,.int .i64 x.mode,.bool x.deductible] 123)
   go_upto_region 5 with fail
   generalize wr.alloc (Obj.cells _ _) = W1 at hBo hbn ⊢
   have p1:W1.cell? ⟨wr.heap.size,5,none⟩ = some (.int .i64 x.unit):=hBo.cell 5
   have hb5:=bel_adv hb4 hbn
   clear c0 c1 c2 c3 c4 c5 c6 c7 hbn hb4
   go_wp2
   go_roundw
   case rel=>exact ⟨k+1,by omega,by go_num,by rw [HT.out]; congr 1; omega,hb5⟩
   case measure=>simp [intOf]; omega
  ·
   obtain rfl:k = m.ss.length:=by omega
   have hBr:=hB.adv hb4
   have hbw:=bel_adv hbel hb4
   have HWR:Hid (windR m.t = 2 * (u+2+unitS (m.ss.take m.ss.length)) * 1000000 / (1000000 - leviesR m.t)+2):=by rw [Hid,windR,HMV.out]
   have HL1:=HLB.out
   clear z1 z6 hs1 hb4 hbel HMV
   generalize unitS (m.ss.take m.ss.length) = q at *
   have HL2:Hid (∀ W',Below wr.heap.size wr W'→Calls Tryz.prog 121 #[.agg #[.slice m.Aw m.ws.length m.cw,.slice m.As m.ss.length m.cs,.int .i64 m.tm.t.method,.slice m.tm.Ab m.tm.t.brs.length m.tm.cb,.int .i64 m.tm.t.allowance,.int .i64 m.tm.t.credit,.int .i64 m.tm.t.unit,.int .i64 m.tm.t.mode,.slice m.tm.Ar m.tm.t.rows.length m.tm.cr,.int .i64 m.count,.int .i64 m.sh.fixed,.int .i64 m.sh.dependent,.int .i64 m.sh.lower,.int .i64 m.sh.share,.int .i64 m.sh.top,.int .i64 m.recover]] W' fun e w'=>e = .returned (.int .i64 (leviesR m.t))∧Below W'.heap.size W' w'):=fun W' hb=>HLE.out W' (bel_adv hbw hb)
   generalize leviesR m.t = lv at *
   have hne:¬ (1000000 - lv = 0):=by omega
   have hq0:0≤2 * (u+2+q) * 1000000:=by omega
   have hq:(2 * (u+2+q) * 1000000).tdiv (1000000 - lv) = 2 * (u+2+q) * 1000000 / (1000000 - lv):=Int.tdiv_eq_ediv_of_nonneg hq0
   have hd0:0≤2 * (u+2+q) * 1000000 / (1000000 - lv):=Int.ediv_nonneg hq0 (by omega)
   have hd1:2 * (u+2+q) * 1000000 / (1000000 - lv)≤2 * (u+2+q) * 1000000:=Int.ediv_le_self _ hq0
   generalize 2 * (u+2+q) * 1000000 / (1000000 - lv) = dv at *
   go_wp2_with (refine wpList_load_blk rfl _ _ rfl w.heap.size rfl hBr Tryz.underlying45 rfl (by kernel_rfl) ?_)
   refine (HL2.out wr (Below.refl _ _)).mono ?_
   rintro e w5 ⟨rfl,hb5⟩
   go_wp2
   go_ret
   exact ⟨by rw [HWR.out]; first | rfl | (simp [go_sem]; done) | (simp [go_sem]; unfold wrap64; omega),bel_adv hbw hb5⟩
set_option maxRecDepth 100000 in
set_option maxHeartbeats 4000000 in
theorem refusedG (m:RulesM) (w:World) (h:m.In w) (hR:RulesOk m.t) (hm:m.tm.t.method ≠ 1) (hf : ∀ s ∈ m.ss,s.floor = 0) (hlv:leviesR m.t≤900000) : Calls Tryz.prog 70 #[m.val] w fun e w'=>e = .returned (.bool false)∧Below w.heap.size w w':=by
 have hsl:m.ss.length≤12:=hR.nsch
 have HF:=Lib.hid hf
 have hm1:(m.tm.t.method == 1) = false:=by simpa using hm
 have HV:Hid (∀ W,Below w.heap.size w W→Calls Tryz.prog 99 #[.agg #[.slice m.Aw m.ws.length m.cw,.slice m.As m.ss.length m.cs,.int .i64 m.tm.t.method,.slice m.tm.Ab m.tm.t.brs.length m.tm.cb,.int .i64 m.tm.t.allowance,.int .i64 m.tm.t.credit,.int .i64 m.tm.t.unit,.int .i64 m.tm.t.mode,.slice m.tm.Ar m.tm.t.rows.length m.tm.cr,.int .i64 m.count,.int .i64 m.sh.fixed,.int .i64 m.sh.dependent,.int .i64 m.sh.lower,.int .i64 m.sh.share,.int .i64 m.sh.top,.int .i64 m.recover]] W fun e w'=>e = .returned (.bool true)∧Below W.heap.size W w'):=fun W hb=>validP32 m W (h.adv hb) hR
 have HLE:Hid (∀ W,Below w.heap.size w W→Calls Tryz.prog 121 #[.agg #[.slice m.Aw m.ws.length m.cw,.slice m.As m.ss.length m.cs,.int .i64 m.tm.t.method,.slice m.tm.Ab m.tm.t.brs.length m.tm.cb,.int .i64 m.tm.t.allowance,.int .i64 m.tm.t.credit,.int .i64 m.tm.t.unit,.int .i64 m.tm.t.mode,.slice m.tm.Ar m.tm.t.rows.length m.tm.cr,.int .i64 m.count,.int .i64 m.sh.fixed,.int .i64 m.sh.dependent,.int .i64 m.sh.lower,.int .i64 m.sh.share,.int .i64 m.sh.top,.int .i64 m.recover]] W fun e w'=>e = .returned (.int .i64 (leviesR m.t))∧Below W.heap.size W w'):=fun W hb=>leviesG m W (h.adv hb) hR
 clear hR hf
 unfold RulesM.val
 go_enter Tryz.func70,Tryz.ntmps70
 have hB:=Blk.new w 45 #[.slice m.Aw m.ws.length m.cw,.slice m.As m.ss.length m.cs,.int .i64 m.tm.t.method,.slice m.tm.Ab m.tm.t.brs.length m.tm.cb,.int .i64 m.tm.t.allowance,.int .i64 m.tm.t.credit,.int .i64 m.tm.t.unit,.int .i64 m.tm.t.mode,.slice m.tm.Ar m.tm.t.rows.length m.tm.cr,.int .i64 m.count,.int .i64 m.sh.fixed,.int .i64 m.sh.dependent,.int .i64 m.sh.lower,.int .i64 m.sh.share,.int .i64 m.sh.top,.int .i64 m.recover]
 have hbel:=below_new w (.cells #[.slice m.Aw m.ws.length m.cw,.slice m.As m.ss.length m.cs,.int .i64 m.tm.t.method,.slice m.tm.Ab m.tm.t.brs.length m.tm.cb,.int .i64 m.tm.t.allowance,.int .i64 m.tm.t.credit,.int .i64 m.tm.t.unit,.int .i64 m.tm.t.mode,.slice m.tm.Ar m.tm.t.rows.length m.tm.cr,.int .i64 m.count,.int .i64 m.sh.fixed,.int .i64 m.sh.dependent,.int .i64 m.sh.lower,.int .i64 m.sh.share,.int .i64 m.sh.top,.int .i64 m.recover] 45)
 go_upto_region 1 with fail
 generalize w.alloc (Obj.cells _ _) = W at hB hbel ⊢
 go_wp2_with (refine wpList_load_blk rfl _ _ rfl w.heap.size rfl hB Tryz.underlying45 rfl (by kernel_rfl) ?_)
 refine (HV.out _ hbel).mono ?_
 rintro e w1 ⟨rfl,hb1⟩
 have hB1:=hB.adv hb1
 have hbel1:=bel_adv hbel hb1
 have z1:w1.cell? ⟨w.heap.size,1,none⟩ = some (.slice m.As m.ss.length m.cs):=hB1.cell 1
 have z2:w1.cell? ⟨w.heap.size,2,none⟩ = some (.int .i64 m.tm.t.method):=hB1.cell 2
 have hs1:=h.ss.adv hbel1
 clear hB hbel hb1 HV
 go_wp2_with fail
 go_loopw [17] (fun i wr=>∃ k:Nat,k≤m.ss.length∧i = .int .i64 k∧Below w1.heap.size w1 wr) (fun i _=>m.ss.length - (intOf i).toNat)
 case atStart=>exact ⟨0,by omega,rfl,Below.refl _ _⟩
 case round =>
  rename World=>wr
  obtain ⟨k,hk,rfl,hb4⟩:=hrel
  clear z1 z2
  by_cases hlt:k < m.ss.length
  ·
   obtain ⟨b,off,hA,hb,hc⟩:=(hs1.adv hb4).at_ hlt
   have c0:=hc 0 _ rfl
   have c1:=hc 1 _ rfl
   have c2:=hc 2 _ rfl
   have c3:=hc 3 _ rfl
   have c4:=hc 4 _ rfl
   have c5:=hc 5 _ rfl
   have c6:=hc 6 _ rfl
   have c7:=hc 7 _ rfl
   simp only [Nat.add_zero] at c0
   have hki:(k:Int) < (m.ss.length:Int):=by omega
   have HFL:=Lib.hid (HF.out _ (List.getElem_mem hlt))
   clear hc
   rw [hA]
   generalize m.ss[k] = x at *
   have hBo:=Blk.new wr 123 #[.string x.code,.int .i64 x.employee,.int .i64 x.employer,.int .i64 x.floor,.int .i64 x.ceiling,.int .i64 x.unit,.int .i64 x.mode,.bool x.deductible]
   have hbn:=below_new wr (.cells #[.string x.code,.int .i64 x.employee,.int .i64 x.employer,.int .i64 x.floor,.int .i64 x.ceiling,.int .i64 x.unit,.int .i64 x.mode,.bool x.deductible] 123)
   go_upto_region 6 with fail
   generalize wr.alloc (Obj.cells _ _) = W1 at hBo hbn ⊢
   have p3:W1.cell? ⟨wr.heap.size,3,none⟩ = some (.int .i64 x.floor):=hBo.cell 3
   rw [HFL.out] at p3
   have hb5:=bel_adv hb4 hbn
   clear c0 c1 c2 c3 c4 c5 c6 c7 hbn hb4
   go_wp2
   go_roundw
   case rel=>exact ⟨k+1,by omega,by go_num,hb5⟩
   case measure=>simp [intOf]; omega
  ·
   obtain rfl:k = m.ss.length:=by omega
   have hBr:=hB1.adv hb4
   have hbw:=bel_adv hbel1 hb4
   clear hB1 hbel1 hs1 hb4
   go_wp2_with (refine wpList_load_blk rfl _ _ rfl w.heap.size rfl hBr Tryz.underlying45 rfl (by kernel_rfl) ?_)
   refine (HLE.out wr hbw).mono ?_
   rintro e w5 ⟨rfl,hb5⟩
   generalize leviesR m.t = lv at *
   have h9:¬ (900000 < lv):=by omega
   go_wp2
   go_ret
   exact ⟨by simp [go_sem,h9],bel_adv hbw hb5⟩
set_option maxRecDepth 100000 in
set_option maxHeartbeats 4000000 in
theorem refusedT (m:RulesM) (w:World) (h:m.In w) (hR:RulesOk m.t) (hm:m.tm.t.method = 1) : Calls Tryz.prog 70 #[m.val] w fun e w'=>e = .returned (.bool true)∧Below w.heap.size w w':=by
 have HV:Hid (∀ W,Below w.heap.size w W→Calls Tryz.prog 99 #[.agg #[.slice m.Aw m.ws.length m.cw,.slice m.As m.ss.length m.cs,.int .i64 m.tm.t.method,.slice m.tm.Ab m.tm.t.brs.length m.tm.cb,.int .i64 m.tm.t.allowance,.int .i64 m.tm.t.credit,.int .i64 m.tm.t.unit,.int .i64 m.tm.t.mode,.slice m.tm.Ar m.tm.t.rows.length m.tm.cr,.int .i64 m.count,.int .i64 m.sh.fixed,.int .i64 m.sh.dependent,.int .i64 m.sh.lower,.int .i64 m.sh.share,.int .i64 m.sh.top,.int .i64 m.recover]] W fun e w'=>e = .returned (.bool true)∧Below W.heap.size W w'):=fun W hb=>validP32 m W (h.adv hb) hR
 have HM:=Lib.hid hm
 clear hR hm
 unfold RulesM.val
 go_enter Tryz.func70,Tryz.ntmps70
 have hB:=Blk.new w 45 #[.slice m.Aw m.ws.length m.cw,.slice m.As m.ss.length m.cs,.int .i64 m.tm.t.method,.slice m.tm.Ab m.tm.t.brs.length m.tm.cb,.int .i64 m.tm.t.allowance,.int .i64 m.tm.t.credit,.int .i64 m.tm.t.unit,.int .i64 m.tm.t.mode,.slice m.tm.Ar m.tm.t.rows.length m.tm.cr,.int .i64 m.count,.int .i64 m.sh.fixed,.int .i64 m.sh.dependent,.int .i64 m.sh.lower,.int .i64 m.sh.share,.int .i64 m.sh.top,.int .i64 m.recover]
 have hbel:=below_new w (.cells #[.slice m.Aw m.ws.length m.cw,.slice m.As m.ss.length m.cs,.int .i64 m.tm.t.method,.slice m.tm.Ab m.tm.t.brs.length m.tm.cb,.int .i64 m.tm.t.allowance,.int .i64 m.tm.t.credit,.int .i64 m.tm.t.unit,.int .i64 m.tm.t.mode,.slice m.tm.Ar m.tm.t.rows.length m.tm.cr,.int .i64 m.count,.int .i64 m.sh.fixed,.int .i64 m.sh.dependent,.int .i64 m.sh.lower,.int .i64 m.sh.share,.int .i64 m.sh.top,.int .i64 m.recover] 45)
 go_upto_region 1 with fail
 generalize w.alloc (Obj.cells _ _) = W at hB hbel ⊢
 go_wp2_with (refine wpList_load_blk rfl _ _ rfl w.heap.size rfl hB Tryz.underlying45 rfl (by kernel_rfl) ?_)
 refine (HV.out _ hbel).mono ?_
 rintro e w1 ⟨rfl,hb1⟩
 have hB1:=hB.adv hb1
 have hbel1:=bel_adv hbel hb1
 have z2:w1.cell? ⟨w.heap.size,2,none⟩ = some (.int .i64 m.tm.t.method):=hB1.cell 2
 rw [HM.out] at z2
 clear hB hbel hb1 HV
 go_wp2
 go_ret
 exact ⟨rfl,hbel1⟩
end Go.Proofs.YtlhkojcmcmkmaaaGreat
namespace Go.Proofs.YtlhkojcmcmkmaaaGreat
open Go.RowKit
set_option maxRecDepth 100000 in
set_option maxHeartbeats 4000000 in
theorem first1 (p5 p6 p7 p8 : Nat) (l0 hi : Int) (w:World) (P:Int→Bool) (h0:0≤l0) (h1:l0≤hi+1) (h2:hi≤100000000)
  (hcall:∀ W,Below w.heap.size w W→∀ n,l0≤n→n≤hi→Calls Tryz.prog 76 #[.int .i64 n,.pointer (some ⟨p5,0,none⟩),.pointer (some ⟨p6,0,none⟩),.pointer (some ⟨p7,0,none⟩),.pointer (some ⟨p8,0,none⟩)] W fun e w'=>e = .returned (.bool (P n))∧Below W.heap.size W w') :
  Calls Tryz.prog 75 #[.int .i64 l0,.int .i64 hi,.func (.func 76) #[] #[.pointer (some ⟨p5,0,none⟩),.pointer (some ⟨p6,0,none⟩),.pointer (some ⟨p7,0,none⟩),.pointer (some ⟨p8,0,none⟩)]] w fun e w'=>(∃ n,e = .returned (.int .i64 n)∧l0≤n∧n≤hi+1∧(n = hi+1 ∨ P n = true)∧(n = l0 ∨ P (n - 1) = false))∧Below w.heap.size w w':=by
 have HC:=Lib.hid hcall
 clear hcall
 go_enter Tryz.func75,Tryz.ntmps75
 go_wp2_with fail
 go_loopw [0,7] (fun a b wr=>∃ lo en:Int,a = .int .i64 lo∧b = .int .i64 en∧l0≤lo∧lo≤en∧en≤hi+1∧Hid (en = hi+1 ∨ P en = true)∧Hid (lo = l0 ∨ P (lo - 1) = false)∧Below w.heap.size w wr) (fun a b _=>(intOf b - intOf a).toNat)
 case atStart=>exact ⟨l0,hi+1,rfl,rfl,by omega,h1,by omega,.inl rfl,.inl rfl,Below.refl _ _⟩
 case round =>
  rename World=>wr
  obtain ⟨lo,en,rfl,rfl,a1,a2,a3,hen,hlo,hb⟩:=hrel
  by_cases hlt:lo < en
  ·
   have hd:(en - lo).tdiv 2 = (en - lo) / 2:=Int.tdiv_eq_ediv_of_nonneg (by omega)
   obtain ⟨d,hde⟩ : ∃ d,d = (en - lo) / 2:=⟨_,rfl⟩
   rw [← hde] at hd
   have d0:0≤d:=by omega
   have d1:lo+d < en:=by omega
   have HDE:=Lib.hid hde
   clear hde
   go_wp2_with fail
   refine (HC.out wr hb (lo+d) (by omega) (by omega)).mono ?_
   rintro e w1 ⟨rfl,hb1⟩
   have hb2:=bel_adv hb hb1
   clear hb hb1
   cases hp:P (lo+d)
   ·
    have HP:Hid (P (lo+d+1 - 1) = false):=by rw [show lo+d+1 - 1 = lo+d by omega]; exact hp
    clear hp
    go_wp2
    go_roundw
    case rel=>exact ⟨lo+d+1,en,by go_num,rfl,by omega,by omega,a3,hen,.inr HP.out,hb2⟩
    case measure=>simp only [intOf]; omega
   ·
    have HP:=Lib.hid hp
    clear hp
    go_wp2
    go_roundw
    case rel=>exact ⟨lo,lo+d,rfl,rfl,a1,by omega,by omega,.inr HP.out,hlo,hb2⟩
    case measure=>simp only [intOf]; have:=HDE.out; omega
  ·
   obtain rfl:lo = en:=by omega
   go_wp2
   go_ret
   exact ⟨⟨lo,rfl,a1,a3,hen.out,hlo.out⟩,hb⟩
set_option maxRecDepth 100000 in
set_option maxHeartbeats 4000000 in
theorem first2 (p5 p6 p7 p8 p9 : Nat) (l0 hi : Int) (w:World) (P:Int→Bool) (h0:0≤l0) (h1:l0≤hi+1) (h2:hi≤100000000)
  (hcall:∀ W,Below w.heap.size w W→∀ n,l0≤n→n≤hi→Calls Tryz.prog 77 #[.int .i64 n,.pointer (some ⟨p5,0,none⟩),.pointer (some ⟨p6,0,none⟩),.pointer (some ⟨p7,0,none⟩),.pointer (some ⟨p8,0,none⟩),.pointer (some ⟨p9,0,none⟩)] W fun e w'=>e = .returned (.bool (P n))∧Below W.heap.size W w') :
  Calls Tryz.prog 75 #[.int .i64 l0,.int .i64 hi,.func (.func 77) #[] #[.pointer (some ⟨p5,0,none⟩),.pointer (some ⟨p6,0,none⟩),.pointer (some ⟨p7,0,none⟩),.pointer (some ⟨p8,0,none⟩),.pointer (some ⟨p9,0,none⟩)]] w fun e w'=>(∃ n,e = .returned (.int .i64 n)∧l0≤n∧n≤hi+1∧(n = hi+1 ∨ P n = true)∧(n = l0 ∨ P (n - 1) = false))∧Below w.heap.size w w':=by
 have HC:=Lib.hid hcall
 clear hcall
 go_enter Tryz.func75,Tryz.ntmps75
 go_wp2_with fail
 go_loopw [0,7] (fun a b wr=>∃ lo en:Int,a = .int .i64 lo∧b = .int .i64 en∧l0≤lo∧lo≤en∧en≤hi+1∧Hid (en = hi+1 ∨ P en = true)∧Hid (lo = l0 ∨ P (lo - 1) = false)∧Below w.heap.size w wr) (fun a b _=>(intOf b - intOf a).toNat)
 case atStart=>exact ⟨l0,hi+1,rfl,rfl,by omega,h1,by omega,.inl rfl,.inl rfl,Below.refl _ _⟩
 case round =>
  rename World=>wr
  obtain ⟨lo,en,rfl,rfl,a1,a2,a3,hen,hlo,hb⟩:=hrel
  by_cases hlt:lo < en
  ·
   have hd:(en - lo).tdiv 2 = (en - lo) / 2:=Int.tdiv_eq_ediv_of_nonneg (by omega)
   obtain ⟨d,hde⟩ : ∃ d,d = (en - lo) / 2:=⟨_,rfl⟩
   rw [← hde] at hd
   have d0:0≤d:=by omega
   have d1:lo+d < en:=by omega
   have HDE:=Lib.hid hde
   clear hde
   go_wp2_with fail
   refine (HC.out wr hb (lo+d) (by omega) (by omega)).mono ?_
   rintro e w1 ⟨rfl,hb1⟩
   have hb2:=bel_adv hb hb1
   clear hb hb1
   cases hp:P (lo+d)
   ·
    have HP:Hid (P (lo+d+1 - 1) = false):=by rw [show lo+d+1 - 1 = lo+d by omega]; exact hp
    clear hp
    go_wp2
    go_roundw
    case rel=>exact ⟨lo+d+1,en,by go_num,rfl,by omega,by omega,a3,hen,.inr HP.out,hb2⟩
    case measure=>simp only [intOf]; omega
   ·
    have HP:=Lib.hid hp
    clear hp
    go_wp2
    go_roundw
    case rel=>exact ⟨lo,lo+d,rfl,rfl,a1,by omega,by omega,.inr HP.out,hlo,hb2⟩
    case measure=>simp only [intOf]; have:=HDE.out; omega
  ·
   obtain rfl:lo = en:=by omega
   go_wp2
   go_ret
   exact ⟨⟨lo,rfl,a1,a3,hen.out,hlo.out⟩,hb⟩
end Go.Proofs.YtlhkojcmcmkmaaaGreat
