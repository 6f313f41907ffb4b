/- Joined texts: G33e. Conditions: as stated. -/
import Derived.Test.YtlhkojcmcmkmaaaGreatJG33b
namespace Go.Proofs.YtlhkojcmcmkmaaaGreat
open Go.RowKit
def rvM (m:RulesM) : Array Value:=#[.slice m.Aw m.ws.length m.cw,.slice m.As m.ss.length m.cs,.int .i64 m.tm.t.method,.slice m.tm.Ab m.tm.t.brs.length m.tm.cb,.int .i64 m.tm.t.allowance,.int .i64 m.tm.t.credit,.int .i64 m.tm.t.unit,.int .i64 m.tm.t.mode,.slice m.tm.Ar m.tm.t.rows.length m.tm.cr,.int .i64 m.count,.int .i64 m.sh.fixed,.int .i64 m.sh.dependent,.int .i64 m.sh.lower,.int .i64 m.sh.share,.int .i64 m.sh.top,.int .i64 m.recover]
structure HdS (m:RulesM) (y:YearM) (A:Option Addr) (cap:Nat) (xs:List Elem) (c:ByteArray) (t:Int) (p5 p6 p7 p8 p9 : Nat) (W:World) : Prop where
 R:Blk W p5 45 (rvM m)
 Y:Blk W p6 53 (yQv y)
 E:Blk W p7 51 #[.slice A xs.length cap]
 C:Blk W p8 9 #[.string c]
 T:Blk W p9 3 #[.int .i64 t]
 ri:m.In W
 yi:y.In W
 ei:SliceOf encE 2 W W.heap.size A xs
theorem HdS.adv {m:RulesM} {y:YearM} {A:Option Addr} {cap:Nat} {xs:List Elem} {c:ByteArray} {t:Int} {p5 p6 p7 p8 p9 : Nat} {W W' : World} (h:HdS m y A cap xs c t p5 p6 p7 p8 p9 W) (hb:Below W.heap.size W W') : HdS m y A cap xs c t p5 p6 p7 p8 p9 W' :=
 ⟨h.R.adv hb,h.Y.adv hb,h.E.adv hb,h.C.adv hb,h.T.adv hb,h.ri.adv hb,h.yi.adv hb,h.ei.adv hb⟩
theorem legalGood (m:RulesM) (y:YearM) (A:Option Addr) (cap:Nat) (xs:List Elem) (c:ByteArray) (n:Int) (w:World) (hr:m.In w) (hy:y.In w) (hs:SliceOf encE 2 w w.heap.size A xs) (hg:GrIn m.t y.t xs c) (h0:0≤n) (h1:n≤100000000) :
  Calls Tryz.prog 36 #[.agg (rvM m),.agg (yQv y),.slice A xs.length cap,.string c,.int .i64 n] w fun e w'=>e = .returned (.tuple #[.int .i64 (fL m.t y.t xs c n),.int .i64 0])∧Below w.heap.size w w':=by
 have hI:mkI m pQ y [] true (xs++[⟨c,n⟩]) = inL m.t y.t xs c n:=rfl
 have hl:=hg.xl
 have hL:=legalG m y A cap xs c n w hr hy hs (by omega) (by rw [hI]; exact hg.in_ n)
 rw [hI] at hL
 refine Calls.mono (args:=#[.agg (rvM m),.agg (yQv y),.slice A xs.length cap,.string c,.int .i64 n]) hL ?_
 rintro e w' ⟨rfl,hb⟩
 have he:=hg.err h0 h1
 exact ⟨by rw [lgO,if_pos he,he]; rfl,hb⟩
set_option maxRecDepth 100000 in
set_option maxHeartbeats 4000000 in
theorem clo1 {m:RulesM} {y:YearM} {A:Option Addr} {cap:Nat} {xs:List Elem} {c:ByteArray} {t:Int} {p5 p6 p7 p8 p9 : Nat} {W:World} (h:HdS m y A cap xs c t p5 p6 p7 p8 p9 W) (hg:GrIn m.t y.t xs c) (n:Int) (h0:0≤n) (h1:n≤100000000) :
  Calls Tryz.prog 76 #[.int .i64 n,.pointer (some ⟨p5,0,none⟩),.pointer (some ⟨p6,0,none⟩),.pointer (some ⟨p7,0,none⟩),.pointer (some ⟨p8,0,none⟩)] W fun e w'=>e = .returned (.bool false)∧Below W.heap.size W w':=by
 have HL:=Lib.hid (legalGood m y A cap xs c n W h.ri h.yi h.ei hg h0 h1)
 have hR:=h.R
 have hY:=h.Y
 have z7:W.cell? ⟨p7,0,none⟩ = some (.slice A xs.length cap):=h.E.cell 0
 have z8:W.cell? ⟨p8,0,none⟩ = some (.string c):=h.C.cell 0
 clear h hg
 go_enter Tryz.func76,Tryz.ntmps76
 go_wp2_with (first | (refine wpList_load_blk rfl _ _ rfl p5 rfl hR Tryz.underlying45 rfl (by kernel_rfl) ?_) | (refine wpList_load_blk rfl _ _ rfl p6 rfl hY Tryz.underlying53 rfl (by kernel_rfl) ?_))
 refine HL.out.mono ?_
 rintro e w1 ⟨rfl,hb1⟩
 clear HL hR hY z7 z8
 go_wp2
 go_ret
 exact ⟨rfl,hb1⟩
set_option maxRecDepth 100000 in
set_option maxHeartbeats 4000000 in
theorem clo2 {m:RulesM} {y:YearM} {A:Option Addr} {cap:Nat} {xs:List Elem} {c:ByteArray} {t:Int} {p5 p6 p7 p8 p9 : Nat} {W:World} (h:HdS m y A cap xs c t p5 p6 p7 p8 p9 W) (hg:GrIn m.t y.t xs c) (n:Int) (h0:0≤n) (h1:n≤100000000) :
  Calls Tryz.prog 77 #[.int .i64 n,.pointer (some ⟨p5,0,none⟩),.pointer (some ⟨p6,0,none⟩),.pointer (some ⟨p7,0,none⟩),.pointer (some ⟨p8,0,none⟩),.pointer (some ⟨p9,0,none⟩)] W fun e w'=>e = .returned (.bool (decide (t≤fL m.t y.t xs c n)))∧Below W.heap.size W w':=by
 have HL:=Lib.hid (legalGood m y A cap xs c n W h.ri h.yi h.ei hg h0 h1)
 have hR:=h.R
 have hY:=h.Y
 have z7:W.cell? ⟨p7,0,none⟩ = some (.slice A xs.length cap):=h.E.cell 0
 have z8:W.cell? ⟨p8,0,none⟩ = some (.string c):=h.C.cell 0
 have hT:=h.T
 clear h hg
 go_enter Tryz.func77,Tryz.ntmps77
 go_wp2_with (first | (refine wpList_load_blk rfl _ _ rfl p5 rfl hR Tryz.underlying45 rfl (by kernel_rfl) ?_) | (refine wpList_load_blk rfl _ _ rfl p6 rfl hY Tryz.underlying53 rfl (by kernel_rfl) ?_))
 refine HL.out.mono ?_
 rintro e w1 ⟨rfl,hb1⟩
 have z9:w1.cell? ⟨p9,0,none⟩ = some (.int .i64 t):=(hT.adv hb1).cell 0
 clear HL hR hY z7 z8 hT
 obtain ⟨f,hff⟩ : ∃ f,f = fL m.t y.t xs c n:=⟨_,rfl⟩
 rw [← hff]
 have HFF:=Lib.hid hff
 clear hff
 by_cases hf:t≤f
 ·
  go_wp2
  go_ret
  exact ⟨by rw [← HFF.out]; simp [hf],hb1⟩
 ·
  go_wp2
  go_ret
  exact ⟨by rw [← HFF.out]; simp,hb1⟩
def SolveS (r:RulesT) (y:YearT) (x:List Elem) (c:ByteArray) (t a e : Int) : Prop :=
 (¬ (∃ v,findW r.wages c = some v∧v.kind = 1)∧a = 0∧e = 9) ∨ ((∃ v,findW r.wages c = some v∧v.kind = 1)∧(t < 0 ∨ 1000000000 < t)∧a = 0∧e = 2) ∨ ((∃ v,findW r.wages c = some v∧v.kind = 1)∧(0≤t∧t≤1000000000)∧SolveR (fL r y x c) t a e)
theorem SolveS.uniq {r:RulesT} {y:YearT} {x:List Elem} {c:ByteArray} {t a e a' e' : Int} (h:SolveS r y x c t a e) (h' : SolveS r y x c t a' e') : a = a'∧e = e':=by
 rcases h with ⟨h0,rfl,rfl⟩ | ⟨h0,h1,rfl,rfl⟩ | ⟨h0,h1,h2⟩ <;> rcases h' with ⟨k0,rfl,rfl⟩ | ⟨k0,k1,rfl,rfl⟩ | ⟨k0,k1,k2⟩
 ·
  exact ⟨rfl,rfl⟩
 ·
  exact absurd k0 h0
 ·
  exact absurd k0 h0
 ·
  exact absurd h0 k0
 ·
  exact ⟨rfl,rfl⟩
 ·
  omega
 ·
  exact absurd h0 k0
 ·
  omega
 ·
  exact h2.uniq k2
set_option maxRecDepth 100000 in
set_option maxHeartbeats 8000000 in
theorem solveG (m:RulesM) (y:YearM) (A:Option Addr) (cap:Nat) (xs:List Elem) (c:ByteArray) (t:Int) (w:World) (hr:m.In w) (hy:y.In w) (hs:SliceOf encE 2 w w.heap.size A xs) (hR:RulesOk m.t) (hm:m.tm.t.method ≠ 1) (hf : ∀ s ∈ m.ss,s.floor = 0) (hlv:leviesR m.t≤900000)
  (hk:∀ v ∈ m.ws,v.kind = 1 ∨ v.kind = 2) (hg:(∃ v,findW m.ws c = some v∧v.kind = 1)→GrIn m.t y.t xs c) :
  Calls Tryz.prog 42 #[.agg (rvM m),.agg (yQv y),.slice A xs.length cap,.string c,.int .i64 t] w fun e w'=>(∃ a er,e = .returned (.tuple #[.int .i64 a,.int .i64 er])∧SolveS m.t y.t xs c t a er)∧Below w.heap.size w w':=by
 obtain ⟨hwl,hwz⟩:=validB_facts hR.wages
 have hwl':m.ws.length≤9223372036854775806:=by have:m.t.wages.length = m.ws.length:=rfl; omega
 have HG:=Lib.hid hg
 have HK:=Lib.hid hk
 -- the boxes
 obtain ⟨W5,hW5⟩ : ∃ W5,W5 = ((((w.alloc (.cells (rvM m) 45)).alloc (.cells (yQv y) 53)).alloc (.cells #[.slice A xs.length cap] 51)).alloc (.cells #[.string c] 9)).alloc (.cells #[.int .i64 t] 3):=⟨_,rfl⟩
 have hb5:Below w.heap.size w W5:=by
  rw [hW5]
  exact bel_alloc (bel_alloc (bel_alloc (bel_alloc (below_new _ _) _) _) _) _
 have hH:HdS m y A cap xs c t w.heap.size (w.heap.size+1) (w.heap.size+1+1) (w.heap.size+1+1+1) (w.heap.size+1+1+1+1) W5:=by
  refine ⟨?_,?_,?_,?_,?_,hr.adv hb5,hy.adv hb5,hs.adv hb5⟩
  ·
   rw [hW5]; exact ((((Blk.new w _ _).alloc _).alloc _).alloc _).alloc _
  ·
   rw [hW5]
   have:=(((Blk.new (w.alloc (.cells (rvM m) 45)) 53 (yQv y)).alloc (.cells #[.slice A xs.length cap] 51)).alloc (.cells #[.string c] 9)).alloc (.cells #[.int .i64 t] 3)
   rwa [World.size_alloc] at this
  ·
   rw [hW5]
   have:=((Blk.new ((w.alloc (.cells (rvM m) 45)).alloc (.cells (yQv y) 53)) 51 #[.slice A xs.length cap]).alloc (.cells #[.string c] 9)).alloc (.cells #[.int .i64 t] 3)
   rwa [World.size_alloc,World.size_alloc] at this
  ·
   rw [hW5]
   have:=(Blk.new (((w.alloc (.cells (rvM m) 45)).alloc (.cells (yQv y) 53)).alloc (.cells #[.slice A xs.length cap] 51)) 9 #[.string c]).alloc (.cells #[.int .i64 t] 3)
   rwa [World.size_alloc,World.size_alloc,World.size_alloc] at this
  ·
   rw [hW5]
   have:=Blk.new ((((w.alloc (.cells (rvM m) 45)).alloc (.cells (yQv y) 53)).alloc (.cells #[.slice A xs.length cap] 51)).alloc (.cells #[.string c] 9)) 3 #[.int .i64 t]
   rwa [World.size_alloc,World.size_alloc,World.size_alloc,World.size_alloc] at this
 have HRF:Hid (∀ W,Below w.heap.size w W→Calls Tryz.prog 70 #[.agg (rvM m)] W fun e w'=>e = .returned (.bool false)∧Below W.heap.size W w'):=fun W hb=>refusedG m W (hr.adv hb) hR hm hf hlv
 have HFI:Hid (∀ W,Below w.heap.size w W→Calls Tryz.prog 74 #[.slice m.Aw m.ws.length m.cw,.string c] W fun e w'=>e = .returned (foundV (findW m.ws c))∧Below W.heap.size W w'):=fun W hb=>find_any m.Aw m.cw m.ws c W (hr.ws.adv hb) hwl'
 have HWI:Hid (∀ W,Below w.heap.size w W→Calls Tryz.prog 78 #[.agg (rvM m)] W fun e w'=>e = .returned (.int .i64 (windR m.t))∧Below W.heap.size W w'):=fun W hb=>windowG m W (hr.adv hb) hR hlv
 clear hr hy hs hR hf hlv hk hg hwl hwz hwl' hm
 have HW5:=Lib.hid hW5
 clear hW5
 go_enter Tryz.func42,Tryz.ntmps42
 go_upto_region 1 with fail
 rw [← HW5.out]
 clear HW5
 generalize w.heap.size+1+1+1+1 = p9 at *
 generalize w.heap.size+1+1+1 = p8 at *
 generalize w.heap.size+1+1 = p7 at *
 generalize w.heap.size+1 = p6 at *
 obtain ⟨p5,hp5⟩ : ∃ p5,p5 = w.heap.size:=⟨_,rfl⟩
 rw [← hp5] at hH ⊢
 have HP5:=Lib.hid hp5
 clear hp5
 have hR5:=hH.R
 go_wp2_with (refine wpList_load_blk rfl _ _ rfl p5 rfl hR5 Tryz.underlying45 rfl (by kernel_rfl) ?_)
 refine (HRF.out _ hb5).mono ?_
 rintro e w1 ⟨rfl,hb1⟩
 have hH1:=hH.adv hb1
 have hbw1:=bel_adv hb5 hb1
 clear hH hb5 hb1 hR5 HRF
 have z0:w1.cell? ⟨p5,0,none⟩ = some (.slice m.Aw m.ws.length m.cw):=hH1.R.cell 0
 have z8:w1.cell? ⟨p8,0,none⟩ = some (.string c):=hH1.C.cell 0
 go_wp2_with fail
 refine (HFI.out _ hbw1).mono ?_
 rintro e w2 ⟨rfl,hb2⟩
 have hH2:=hH1.adv hb2
 have hbw2:=bel_adv hbw1 hb2
 clear hH1 hbw1 hb2 z0 z8 HFI
 rcases hf:findW m.ws c with _ | ⟨vc,vk,vt,vi,va,vn⟩
 ·
  have HN:Hid (¬ ∃ v,findW m.t.wages c = some v∧v.kind = 1):=by
   rw [Hid]; rintro ⟨v,h1,_⟩; rw [show m.t.wages = m.ws from rfl,hf] at h1; cases h1
  rw [show foundV none = .tuple #[.agg #[.string ⟨#[]⟩,.int .i64 0,.bool false,.bool false,.bool false,.int .i64 0],.bool false] from rfl]
  have hbw3:=bel_alloc hbw2 (.cells #[.string ⟨#[]⟩,.int .i64 0,.bool false,.bool false,.bool false,.int .i64 0] 77)
  clear hf hH2 hbw2
  go_upto_region 4 with fail
  generalize w2.alloc (Obj.cells _ _) = w3 at hbw3 ⊢
  go_wp2
  go_ret2
  exact ⟨⟨0,9,rfl,.inl ⟨HN.out,rfl,rfl⟩⟩,HP5.out ▸ hbw3⟩
 have hvk:vk = 1 ∨ vk = 2:=HK.out _ (findW_mem hf).1
 rw [show foundV (some ⟨vc,vk,vt,vi,va,vn⟩) = .tuple #[.agg #[.string vc,.int .i64 vk,.bool vt,.bool vi,.bool va,.int .i64 vn],.bool true] from rfl]
 have hBn:=Blk.new w2 77 #[.string vc,.int .i64 vk,.bool vt,.bool vi,.bool va,.int .i64 vn]
 have hbn:=below_new w2 (.cells #[.string vc,.int .i64 vk,.bool vt,.bool vi,.bool va,.int .i64 vn] 77)
 have hbw3:=bel_adv hbw2 hbn
 have hH3:=hH2.adv hbn
 by_cases hk2:vk = 2
 ·
  have HN:Hid (¬ ∃ v,findW m.t.wages c = some v∧v.kind = 1):=by
   rw [Hid]; rintro ⟨v,h1,h2⟩; rw [show m.t.wages = m.ws from rfl,hf] at h1; injection h1 with h1; subst h1; simp only at h2; omega
  subst hk2
  clear hf hvk hH2 hbw2 hbn hH3
  go_upto_region 4 with fail
  generalize w2.alloc (Obj.cells _ _) = w3 at hbw3 hBn ⊢
  have y1:w3.cell? ⟨w2.heap.size,1,none⟩ = some (.int .i64 2):=hBn.cell 1
  go_wp2
  go_ret2
  exact ⟨⟨0,9,rfl,.inl ⟨HN.out,rfl,rfl⟩⟩,HP5.out ▸ hbw3⟩
 obtain rfl:vk = 1:=by omega
 have HEX:Hid (∃ v,findW m.t.wages c = some v∧v.kind = 1):=⟨_,hf,rfl⟩
 have HGI:Hid (GrIn m.t y.t xs c):=HG.out ⟨_,hf,rfl⟩
 clear hf hvk hk2 hH2 hbw2 hbn
 go_upto_region 4 with fail
 generalize w2.alloc (Obj.cells _ _) = w3 at hbw3 hBn hH3 ⊢
 have y1:w3.cell? ⟨w2.heap.size,1,none⟩ = some (.int .i64 1):=hBn.cell 1
 have z9:w3.cell? ⟨p9,0,none⟩ = some (.int .i64 t):=hH3.T.cell 0
 by_cases hr:t < 0 ∨ 1000000000 < t
 ·
  have HRG:=Lib.hid hr
  rcases hr with hr | hr
  all_goals
   go_wp2
   go_ret2
   exact ⟨⟨0,2,rfl,.inr (.inl ⟨HEX.out,HRG.out,rfl,rfl⟩)⟩,HP5.out ▸ hbw3⟩
 have hr0:0≤t:=by omega
 have hr1:t≤1000000000:=by omega
 clear hr
 have hR3:=hH3.R
 have hY3:=hH3.Y
 have z7:w3.cell? ⟨p7,0,none⟩ = some (.slice A xs.length cap):=hH3.E.cell 0
 have z8:w3.cell? ⟨p8,0,none⟩ = some (.string c):=hH3.C.cell 0
 go_wp2_with (first | (refine wpList_load_blk rfl _ _ rfl p5 rfl hR3 Tryz.underlying45 rfl (by kernel_rfl) ?_) | (refine wpList_load_blk rfl _ _ rfl p6 rfl hY3 Tryz.underlying53 rfl (by kernel_rfl) ?_))
 refine (legalGood m y A cap xs c 0 w3 hH3.ri hH3.yi hH3.ei HGI.out (by omega) (by omega)).mono ?_
 rintro e w4 ⟨rfl,hb4⟩
 have hH4:=hH3.adv hb4
 have hbw4:=bel_adv hbw3 hb4
 clear hH3 hbw3 hb4 hR3 hY3 z7 z8 z9 y1 hBn
 generalize fL m.t y.t xs c 0 = fl0
 go_wp2_with fail
 refine (first1 p5 p6 p7 p8 0 100000000 w4 (fun _=>false) (by omega) (by omega) (by omega) (fun W hb n h0 h1=>clo1 (hH4.adv hb) HGI.out n h0 h1)).mono ?_
 rintro e w5 ⟨⟨n,rfl,q0,q1,q2,q3⟩,hb5⟩
 obtain rfl:n = 100000001:=by rcases q2 with q2 | q2; omega; cases q2
 have hH5:=hH4.adv hb5
 have hbw5:=bel_adv hbw4 hb5
 clear hH4 hbw4 hb5 q0 q1 q2 q3
 obtain ⟨P,hP⟩ : ∃ P:Int→Bool,P = fun n=>decide (t≤fL m.t y.t xs c n):=⟨_,rfl⟩
 have HP:=Lib.hid hP
 have HC2:Hid (∀ W,Below w5.heap.size w5 W→∀ n,0≤n→n≤100000000→Calls Tryz.prog 77 #[.int .i64 n,.pointer (some ⟨p5,0,none⟩),.pointer (some ⟨p6,0,none⟩),.pointer (some ⟨p7,0,none⟩),.pointer (some ⟨p8,0,none⟩),.pointer (some ⟨p9,0,none⟩)] W fun e w'=>e = .returned (.bool (P n))∧Below W.heap.size W w'):=fun W hb n h0 h1=>by
  rw [hP]; exact clo2 (hH5.adv hb) HGI.out n h0 h1
 clear hP
 go_wp2_with fail
 refine (first2 p5 p6 p7 p8 p9 0 100000000 w5 P (by omega) (by omega) (by omega) HC2.out).mono ?_
 rintro e w6 ⟨⟨f,rfl,f0,f1,f2,f3⟩,hb6⟩
 have HF2:=Lib.hid f2
 have HF3:=Lib.hid f3
 clear f2 f3
 have hH6:=hH5.adv hb6
 have hbw6:=bel_adv hbw5 hb6
 have HC3:Hid (∀ W,Below w6.heap.size w6 W→∀ n,0≤n→n≤100000000→Calls Tryz.prog 77 #[.int .i64 n,.pointer (some ⟨p5,0,none⟩),.pointer (some ⟨p6,0,none⟩),.pointer (some ⟨p7,0,none⟩),.pointer (some ⟨p8,0,none⟩),.pointer (some ⟨p9,0,none⟩)] W fun e w'=>e = .returned (.bool (P n))∧Below W.heap.size W w'):=fun W hb=>HC2.out W (bel_adv hb6 hb)
 clear hH5 hbw5 hb6 HC2
 have HWB:=Lib.hid HGI.out.wind_bd
 have HWD:=Lib.hid (fun a b=>HGI.out.wind (a:=a) (b:=b))
 have HW6:=Lib.hid (HWI.out w6 hbw6)
 have hR6:=hH6.R
 clear HWI hH6
 generalize windR m.t = wd at *
 obtain ⟨wd0,wd1⟩:=HWB.out
 obtain ⟨s,hs⟩ : ∃ s,s = max (f - wd) 0:=⟨_,rfl⟩
 have hs0:0≤s:=by omega
 have hs1:s≤f:=by omega
 have HS:=Lib.hid hs
 have HLT:Hid (∀ n,P n = false→fL m.t y.t xs c n < t):=fun n hn=>by rw [HP.out] at hn; simpa using hn
 have HGE:Hid (∀ n,P n = true→t≤fL m.t y.t xs c n):=fun n hn=>by rw [HP.out] at hn; simpa using hn
 clear hs HP
 by_cases hfw:f < wd
 all_goals
  go_wp2_with (refine wpList_load_blk rfl _ _ rfl p5 rfl hR6 Tryz.underlying45 rfl (by kernel_rfl) ?_)
  refine HW6.out.mono ?_
  rintro e w7 ⟨rfl,hb7⟩
  have hbw7:=bel_adv hbw6 hb7
  have HC4:Hid (∀ W,Below w7.heap.size w7 W→∀ n,0≤n→n≤100000000→Calls Tryz.prog 77 #[.int .i64 n,.pointer (some ⟨p5,0,none⟩),.pointer (some ⟨p6,0,none⟩),.pointer (some ⟨p7,0,none⟩),.pointer (some ⟨p8,0,none⟩),.pointer (some ⟨p9,0,none⟩)] W fun e w'=>e = .returned (.bool (P n))∧Below W.heap.size W w'):=fun W hb=>HC3.out W (bel_adv hb7 hb)
  clear hR6 hbw6 hb7 HW6 HC3
  go_wp2_with fail
  go_loopw [19] (fun i wr=>∃ n:Int,i = .int .i64 n∧s≤n∧n≤f+1∧n≤100000001∧Hid (∀ k,s≤k→k < n→P k = false)∧Below w7.heap.size w7 wr) (fun i _=>(f+1 - intOf i).toNat)
  case atStart=>exact ⟨s,by rw [HS.out],by omega,by omega,by omega,fun k h0 h1=>absurd h0 (by omega),Below.refl _ _⟩
  case round =>
   rename World=>wr
   obtain ⟨n,rfl,n0,n1,n2,hinv,hb8⟩:=hrel
   have hbw8:=bel_adv hbw7 hb8
   by_cases hn:n≤f
   ·
    by_cases hn2:n≤100000000
    ·
     go_wp2_with fail
     refine (HC4.out wr hb8 n (by omega) hn2).mono ?_
     rintro e w9 ⟨rfl,hb9⟩
     cases hp:P n
     ·
      have HPN:=Lib.hid hp
      clear hp
      go_wp2
      go_roundw
      case rel=>exact ⟨n+1,by go_num,by omega,by omega,by omega,fun k h0 h1=>by
       rcases Int.lt_or_eq_of_le (show k≤n by omega) with h2 | h2
       ·
        exact hinv.out k h0 h2
       ·
        rw [h2]; exact HPN.out,bel_adv hb8 hb9⟩
      case measure=>simp only [intOf]; omega
     ·
      have HPN:=Lib.hid hp
      clear hp
      go_wp2
      go_ret2
      refine ⟨⟨n,0,rfl,.inr (.inr ⟨HEX.out,⟨hr0,hr1⟩,.inl ⟨rfl,by omega,hn2,HGE.out n HPN.out,fun k h0 h1=>?_⟩⟩)⟩,HP5.out ▸ bel_adv hbw8 hb9⟩
      rcases Int.lt_or_le k s with h2 | h2
      ·
       have h3:=HS.out
       rcases HF3.out with h4 | h4
       ·
        omega
       ·
        exact Int.lt_of_le_of_lt (HWD.out k (f - 1) (by omega)) (HLT.out _ h4)
      ·
       exact HLT.out _ (hinv.out k h2 h1)
    ·
     obtain rfl:f = 100000001:=by omega
     obtain rfl:n = 100000001:=by omega
     go_wp2
     go_ret2
     refine ⟨⟨0,16,rfl,.inr (.inr ⟨HEX.out,⟨hr0,hr1⟩,.inr ⟨rfl,rfl,fun k h0 h1=>?_⟩⟩)⟩,HP5.out ▸ hbw8⟩
     rcases Int.lt_or_le k s with h2 | h2
     ·
      have h3:=HS.out
      rcases HF3.out with h4 | h4
      ·
       omega
      ·
       exact Int.lt_of_le_of_lt (HWD.out k (100000001 - 1) (by omega)) (HLT.out _ h4)
     ·
      exact HLT.out _ (hinv.out k h2 (by omega))
   ·
    exfalso
    obtain rfl:n = f+1:=by omega
    have h1:=hinv.out f (by omega) (by omega)
    rcases HF2.out with h2 | h2
    ·
     omega
    ·
     rw [h1] at h2; cases h2
end Go.Proofs.YtlhkojcmcmkmaaaGreat
