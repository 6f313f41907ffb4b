/- Joined texts: RowI R29 R29b R30. Conditions: as stated. -/
import Derived.Deep.OwnRows
import Derived.BigRegion
import Derived.Test.YtjncpgbhokjbfaaGreatRows
import Derived.Test.YtjncpgbhokjbfaaGreatJ01
import Derived.Test.YtjncpgbhokjbfaaGreatJ08
import Derived.Test.YtjncpgbhokjbfaaGreatJ13
namespace Go.Proofs.YtjncpgbhokjbfaaGreat
open Go.RowKit
def RowI (w:World) (g:Nat) (xs:List Int) : Prop:=w.rowIs g 3 xs.length (fun i=>.int .i64 (xs.getD i 0))
section
variable {w w':World} {g:Nat} {xs:List Int}
theorem RowI.lt (h:RowI w g xs) : g < w.heap.size:=World.rowIs.lt h
theorem RowI.cell (h:RowI w g xs) {i:Nat} (hi:i < xs.length) : w.cell? ⟨g,i,none⟩ = some (.int .i64 (xs.getD i 0)):=World.rowIs.cell h hi
theorem RowI.frozen (h:RowI w g xs) (i:Nat) : w.frozen? ⟨g,i,none⟩ = false:=World.rowIs.frozen h i
theorem getD_set (xs:List Int) (i j : Nat) (v:Int) (hi:i < xs.length) : (xs.set i v).getD j 0 = if j = i then v else xs.getD j 0:=by
 rw [List.getD_eq_getElem?_getD,List.getElem?_set,List.getD_eq_getElem?_getD]
 by_cases e:i = j
 ·
  subst e; simp [hi]
 ·
  rw [if_neg e,if_neg (fun h=>e h.symm)]
theorem RowI.set (h:RowI w g xs) {i:Nat} (hi:i < xs.length) (v:Int) : RowI (w.setCell ⟨g,i,none⟩ (.int .i64 v)) g (xs.set i v):=by
 unfold RowI
 rw [List.length_set]
 refine (World.rowIs.set h i (.int .i64 v)).congr fun j hj=>?_
 rw [getD_set _ _ _ _ hi]
 split <;> rfl
theorem RowI.far (h:RowI w g xs) {p:Addr} (hp:g ≠ p.block) (v:Value) : RowI (w.setCell p v) g xs:=World.rowIs.setOther h hp v
theorem RowI.alloc (h:RowI w g xs) (o:Obj) : RowI (w.alloc o) g xs:=World.rowIs.alloc h o
theorem RowI.drew (h:RowI w g xs) : RowI w.drew g xs:=World.rowIs.of_block h rfl
theorem RowI.drewN (h:RowI w g xs) (n:Nat) : RowI (w.drewN n) g xs:=World.rowIs.of_block h rfl
theorem RowI.adv (h:RowI w g xs) (hb:Below w.heap.size w w') : RowI w' g xs:=World.rowIs.of_block h (hb.block g h.lt)
theorem RowI.grown (h:RowI w g xs) {row:Option Nat} (hg:w.grownBy w' row) (hr:some g ≠ row) : RowI w' g xs:=World.rowIs.of_block h (hg.block g h.lt hr)
theorem RowI.slice (h:RowI w g xs) : SliceOf encI 1 w w.heap.size (some ⟨g,0,none⟩) xs:=fun _=>by
 refine ⟨g,0,rfl,h.lt,fun i x hi j v hj=>?_⟩
 have hl:=(List.getElem?_eq_some_iff.1 hi).1
 obtain rfl:j = 0:=by
  have:=(List.getElem?_eq_some_iff.1 hj).1
  simp [encI] at this; omega
 have:=h.cell hl
 rw [Nat.zero_add,Nat.mul_one,Nat.add_zero,this,List.getD_eq_getElem?_getD,hi]
 simpa [encI] using hj
end
theorem RowI.made (w:World) (n:Nat) : RowI (w.alloc (.cells (madeCells #[.int .i64 0] n) 3)) w.heap.size (List.replicate n 0):=by
 unfold RowI
 rw [List.length_replicate]
 refine (World.rowIs_made w (.int .i64 0) n 3).congr fun i hi=>?_
 rw [List.getD_eq_getElem?_getD,List.getElem?_replicate]
 split <;> rfl
theorem infoInt : (Tryz.prog.info? 3).map (fun i=>(i.zero,i.size,i.bytes)) = some (some (.int .i64 0),1,8):=by kernel_rfl
theorem make_ints (n:Nat) (hn:n≤1000000) (w:World) : (Instr.makeSlice 22 (.int .i64 (n:Int)) (.int .i64 (n:Int))).run Tryz.prog w = .ok (.slice (some ⟨w.heap.size,0,none⟩) n n) (w.alloc (.cells (madeCells #[.int .i64 0] n) 3)) :=
 run_make_row' 22 3 (.int .i64 0) 8 Tryz.underlying22 infoInt rfl .i64 .i64 n (by omega) (by omega) w
theorem make_intsE (n:Nat) (x:Int) (hx:x = n) (hn:n≤1000000) (w:World) : (Instr.makeSlice 22 (.int .i64 x) (.int .i64 x)).run Tryz.prog w = .ok (.slice (some ⟨w.heap.size,0,none⟩) n n) (w.alloc (.cells (madeCells #[.int .i64 0] n) 3)):=by
 subst hx
 exact make_ints n hn w
theorem slice_to (b off len cap : Nat) (x:Int) (m:Nat) (hx:x = m) (hm:m≤cap) (hc:cap ≠ 0) (w:World) : (Instr.sliceAt 22 (.slice (some ⟨b,off,none⟩) len cap) none (some (.int .i64 x)) none).run Tryz.prog w = .ok (.slice (some ⟨b,off,none⟩) m cap) w:=by
 have hu:Tryz.prog.underlying 22 = some (.slice (Tryz.prog.elem 22)):=by kernel_rfl
 have hz:∀ w:World,(sizeOf (Tryz.prog.elem 22)).run Tryz.prog w = .ok 1 w:=fun _=>by kernel_rfl
 have hadd:(⟨b,off,none⟩ : Addr).add 0 = ⟨b,off,none⟩:=by unfold Addr.add; split <;> simp_all
 subst hx
 rw [run_sliceAt_slice w _ _ _ _ _ hu,run_slice_h w _ _ _ _ hu .i64 (m:Int) (by omega) (by omega),hz]
 simp [Result.andThen,sliced,hc,hadd]
end Go.Proofs.YtjncpgbhokjbfaaGreat
namespace Go.Proofs.YtjncpgbhokjbfaaGreat
open Go.RowKit
theorem brD {t:List BrT} {k:Nat} (h:k < t.length) : t.getD k zBr = t[k]:=by rw [List.getD_eq_getElem?_getD,List.getElem?_eq_getElem h]; rfl
set_option maxRecDepth 100000 in
set_option maxHeartbeats 2000000 in
theorem valid29_yes (A:Option Addr) (cap:Nat) (t:List BrT) (w:World) (B:Nat) (h:SliceOf encBr 2 w B A t) (hB:BrOk t) :
  Calls Tryz.prog 146 #[.slice A t.length cap] w fun e w'=>e = .returned (.bool true)∧∃ q,w' = w.drewN q:=by
 have HB:=Lib.hid hB
 have hne:=hB.ne
 have hl:=hB.len
 have hz:=hB.zero
 rw [brD hne] at hz
 have hz0:((t.length:Int) == 0) = false:=by rw [beq_eq_false_iff_ne]; omega
 obtain ⟨b,off,rfl,hb,hc⟩:=h.at_ hne
 have d0:=hc 0 _ rfl
 simp only [Nat.add_zero,Nat.zero_mul] at d0
 rw [hz] at d0
 have hi0:(0:Int) < (t.length:Int):=by omega
 clear hz hc hB
 go_enter Tryz.func146,Tryz.ntmps146
 go_wp2
 go_loopw [3] (fun i wr=>∃ k q:Nat,k≤t.length∧i = .int .i64 k∧Hid (wr = w.drewN q)) (fun i _=>t.length - (intOf i).toNat)
 case atStart=>exact ⟨0,0,by omega,rfl,rfl⟩
 case round =>
  obtain ⟨k,q,hk,rfl,hw⟩:=hrel
  by_cases hlt:k < t.length
  ·
   have hx:SliceOf encBr 2 wr B (some ⟨b,off,none⟩) t:=by rw [hw.out]; exact h
   have h1:=HB.out.hi k hlt
   have h2:=HB.out.r0 k hlt
   have h3:=HB.out.r1 k hlt
   rw [brD hlt] at h1 h2 h3
   obtain ⟨b1,off1,hA1,hb1,hc1⟩:=hx.at_ hlt
   injection hA1 with hA1
   injection hA1 with hA1 hA2
   subst hA1 hA2
   have c0:=hc1 0 _ rfl
   have c1:=hc1 1 _ rfl
   simp only [Nat.add_zero] at c0
   have hki:(k:Int) < (t.length:Int):=by omega
   have g1:decide (1000000000000 < t[k].frm) = false:=by simp; omega
   have g2:decide (t[k].rate < 0) = false:=by simp; omega
   have g3:decide (1000000 < t[k].rate) = false:=by simp; omega
   clear hc1
   rcases k with _ | m
   ·
    have hk0:(0:Int) < (t.length:Int):=by omega
    simp only [Nat.zero_mul,Nat.add_zero] at c0 c1
    go_wp2
    go_quiet (fail)
    go_wp2
    go_roundw
    case rel=>exact ⟨1,q+nq,by omega,by go_num,by show wr.drewN nq = w.drewN (q+nq); rw [hw.out,World.drewN_drewN]⟩
    case measure=>simp [intOf]; omega
   ·
    have hlm:m < t.length:=by omega
    have ha:=HB.out.asc m hlt
    rw [brD hlm,brD hlt] at ha
    obtain ⟨b2,off2,hA3,hb2,hc2⟩:=hx.at_ hlm
    injection hA3 with hA3
    injection hA3 with hA3 hA4
    subst hA3 hA4
    have e0:=hc2 0 _ rfl
    simp only [Nat.add_zero] at e0
    clear hc2
    have g0:decide (t[m+1].frm≤t[m].frm) = false:=by simp; omega
    have hmi:(m:Int) < (t.length:Int):=by omega
    have hmi2:(m:Int)+1 < (t.length:Int):=by omega
    have hp:decide ((0:Int) < (m:Int)+1) = true:=by rw [decide_eq_true_eq]; omega
    go_wp2
    go_quiet (fail)
    go_wp2
    go_roundw
    case rel=>exact ⟨m+2,q+nq,by omega,by go_num,by show wr.drewN nq = w.drewN (q+nq); rw [hw.out,World.drewN_drewN]⟩
    case measure=>simp [intOf]; omega
  ·
   go_wp2
   go_ret
   exact ⟨rfl,q,hw.out⟩
set_option maxHeartbeats 1000000 in
theorem check29_yes (A:Option Addr) (cap:Nat) (t:List BrT) (inc:Int) (w:World) (B:Nat) (h:SliceOf encBr 2 w B A t) (hB:BrOk t) (h0:0≤inc) (h1:inc≤1000000000000) :
  Calls Tryz.prog 188 #[.slice A t.length cap,.int .i64 inc] w fun e w'=>e = .returned (.int .i64 0)∧∃ q,w' = w.drewN q:=by
 go_enter Tryz.func188,Tryz.ntmps188
 go_wp2_with fail
 refine (valid29_yes A cap t w B h hB).mono ?_
 rintro e w1 ⟨rfl,q,rfl⟩
 go_wp2
 go_ret
 exact ⟨rfl,q,rfl⟩
theorem splitN_len (t:List BrT) (inc:Int) : (splitN t inc).length = t.length:=by simp [splitN]
theorem splitN_at (t:List BrT) (inc:Int) {k:Nat} (h:k < t.length) : (splitN t inc).getD k 0 = splitAt' t inc k:=by
 simp [splitN,List.getD_eq_getElem?_getD,List.getElem?_range h]
theorem split_in {t:List BrT} {inc:Int} {k:Nat} (h:k+1 < t.length) : splitAt' t inc k = max (min inc t[k+1].frm - t[k].frm) 0:=by rw [splitAt',endAt,if_pos h,brD h,brD (show k < t.length by omega)]
theorem split_last {t:List BrT} {inc:Int} {k:Nat} (hk:k < t.length) (h : ¬ k+1 < t.length) : splitAt' t inc k = max (inc - t[k].frm) 0:=by rw [splitAt',endAt,if_neg h,brD hk]
def splitTo (t:List BrT) (inc:Int) (k i : Nat) : Value:=.int .i64 (if i < k then splitAt' t inc i else 0)
theorem splitTo_next {w:World} {g m k : Nat} {t:List BrT} {inc v : Int} (h:w.rowIs g 3 m (splitTo t inc k)) (hv:v = splitAt' t inc k) : (w.setCell ⟨g,k,none⟩ (.int .i64 v)).rowIs g 3 m (splitTo t inc (k+1)):=by
 subst hv
 refine (h.set k _).congr fun i _=>?_
 by_cases e:i = k
 ·
  subst e; rw [if_pos rfl]; simp [splitTo]
 ·
  rw [if_neg e]
  unfold splitTo
  by_cases h1:i < k
  ·
   rw [if_pos h1,if_pos (by omega)]
  ·
   rw [if_neg h1,if_neg (by omega)]
theorem splitTo_all {w:World} {g:Nat} {t:List BrT} {inc:Int} (h:w.rowIs g 3 t.length (splitTo t inc t.length)) : RowI w g (splitN t inc):=by
 unfold RowI
 rw [splitN_len]
 refine h.congr fun i hi=>?_
 rw [splitN_at t inc hi,splitTo,if_pos hi]
set_option maxRecDepth 100000 in
set_option maxHeartbeats 2000000 in
theorem split29_yes (A:Option Addr) (cap:Nat) (t:List BrT) (inc:Int) (w:World) (h:SliceOf encBr 2 w w.heap.size A t) (hB:BrOk t) (h0:0≤inc) (h1:inc≤1000000000000) :
  Calls Tryz.prog 186 #[.slice A t.length cap,.int .i64 inc] w fun e w'=>∃ g,e = .returned (.tuple #[.slice (some ⟨g,0,none⟩) t.length t.length,.int .i64 0])∧w.heap.size≤g∧RowI w' g (splitN t inc)∧Below w.heap.size w w':=by
 have hl:=hB.len
 have HB:=Lib.hid hB
 have hmk:=make_ints t.length (by omega)
 have hcon:=check29_yes A cap t inc w _ h hB h0 h1
 have HC:=Lib.hid hcon
 clear hcon hB
 go_enter Tryz.func186,Tryz.ntmps186
 go_wp2_with fail
 refine Calls.mono HC.out ?_
 rintro e w1 ⟨rfl,q,hw1⟩
 have hbel1:Below w.heap.size w w1:=by rw [hw1]; exact below_drewN (Below.refl _ _) q
 have hS1:SliceOf encBr 2 w1 w1.heap.size A t:=h.adv hbel1
 obtain ⟨b,off,rfl,hb,hcx⟩:=hS1.at_ HB.out.ne
 clear hw1 HC h hcx
 go_upto_region 5 with fail
 have hR:=RowI.made w1 t.length
 have hbM:=below_new w1 (.cells (madeCells #[.int .i64 0] t.length) 3)
 have hS2:=hS1.adv hbM
 have hbel2:=bel_adv hbel1 hbM
 have hrow:(w1.alloc (.cells (madeCells #[.int .i64 0] t.length) 3)).rowIs w1.heap.size 3 t.length (splitTo t inc 0):=by
  have h2:=hR
  unfold RowI at h2
  rw [List.length_replicate] at h2
  refine h2.congr fun i hi=>?_
  simp [splitTo,List.getD_eq_getElem?_getD,List.getElem?_replicate]
  split <;> rfl
 generalize w1.alloc (.cells (madeCells #[.int .i64 0] t.length) 3) = W at hR hbM hS2 hbel2 hrow ⊢
 have hgl:=hR.lt
 have hws:=hbel1.size
 clear hR hbM hS1
 go_wp2
 go_loopw [8] (fun i wr=>∃ k:Nat,k≤t.length∧i = .int .i64 k∧wr.rowIs w1.heap.size 3 t.length (splitTo t inc k)∧W.grownBy wr (some w1.heap.size)) (fun i _=>t.length - (intOf i).toNat)
 case atStart=>exact ⟨0,by omega,rfl,hrow,only_refl _ _⟩
 case round =>
  clear hrow
  obtain ⟨k,hk,rfl,hrow,hg⟩:=hrel
  have hSk:=hS2.advG hg (fun a ha=>by injection ha with ha; subst ha; simp only; omega)
  have hbw:Below w.heap.size w wr:=bel_only hbel2 hg (fun g e=>by injection e; omega)
  by_cases hlt:k < t.length
  ·
   have h4:=HB.out.nonneg hlt
   have h5:=HB.out.hi k hlt
   rw [brD hlt] at h4 h5
   obtain ⟨b1,off1,hA1,hb1,hc1⟩:=hSk.at_ hlt
   injection hA1 with hA1
   injection hA1 with hA1 hA2
   subst hA1 hA2
   have c0:=hc1 0 _ rfl
   simp only [Nat.add_zero] at c0
   have hki:(k:Int) < (t.length:Int):=by omega
   have f0:=hrow.frozen k
   have z0:=hrow.cell (i:=k) hlt
   have hne:b ≠ w1.heap.size:=by omega
   have HROW:=Lib.hid hrow
   have HG:=Lib.hid hg
   generalize splitTo t inc k k = zz at z0
   clear hc1 hrow hg
   by_cases hlt2:k+1 < t.length
   ·
    have HSP:=Lib.hid (split_in (inc:=inc) hlt2)
    have h6:=HB.out.nonneg hlt2
    have h7:=HB.out.hi (k+1) hlt2
    rw [brD hlt2] at h6 h7
    obtain ⟨b1,off1,hA1,hb2,hc1⟩:=hSk.at_ hlt2
    injection hA1 with hA1
    injection hA1 with hA1 hA2
    subst hA1 hA2
    have c2:=hc1 0 _ rfl
    simp only [Nat.add_zero] at c2
    have hki2:(k:Int)+1 < (t.length:Int):=by omega
    clear hc1
    go_wp2
    all_goals
     go_roundw
     case rel =>
      have hfin:∀ (v:Int),v = splitAt' t inc k→∃ k':Nat,k'≤t.length∧Value.int .i64 ((k:Int)+1) = .int .i64 k'∧(wr.setCell ⟨w1.heap.size,k,none⟩ (.int .i64 v)).rowIs w1.heap.size 3 t.length (splitTo t inc k')∧W.grownBy (wr.setCell ⟨w1.heap.size,k,none⟩ (.int .i64 v)) (some w1.heap.size):=fun v hv=>⟨k+1,by omega,by go_num,splitTo_next HROW.out hv,only_setCell HG.out (.inl rfl) _⟩
      first | exact hfin _ (by rw [HSP.out]; omega) | ((repeat apply Exists.intro); exact ⟨hfin _ (by rw [HSP.out]; omega),rfl⟩)
     case measure=>simp [intOf]; omega
   ·
    have HSP:=Lib.hid (split_last (inc:=inc) hlt hlt2)
    have hki2:¬ (k:Int)+1 < (t.length:Int):=by omega
    go_wp2
    all_goals
     go_roundw
     case rel =>
      have hfin:∀ (v:Int),v = splitAt' t inc k→∃ k':Nat,k'≤t.length∧Value.int .i64 ((k:Int)+1) = .int .i64 k'∧(wr.setCell ⟨w1.heap.size,k,none⟩ (.int .i64 v)).rowIs w1.heap.size 3 t.length (splitTo t inc k')∧W.grownBy (wr.setCell ⟨w1.heap.size,k,none⟩ (.int .i64 v)) (some w1.heap.size):=fun v hv=>⟨k+1,by omega,by go_num,splitTo_next HROW.out hv,only_setCell HG.out (.inl rfl) _⟩
      first | exact hfin _ (by rw [HSP.out]; omega) | ((repeat apply Exists.intro); exact ⟨hfin _ (by rw [HSP.out]; omega),rfl⟩)
     case measure=>simp [intOf]; omega
  ·
   obtain rfl:k = t.length:=by omega
   have hRN:=splitTo_all hrow
   have HRN:=Lib.hid hRN
   clear hrow hRN
   go_wp2
   go_ret2
   exact ⟨w1.heap.size,rfl,hws,HRN.out,hbw⟩
theorem exTo_succ (t:List BrT) (inc:Int) (k:Nat) : exTo t inc (k+1) = exTo t inc k+splitAt' t inc k * (t.getD k zBr).rate:=rfl
set_option maxRecDepth 100000 in
set_option maxHeartbeats 2000000 in
theorem exact29_yes (A:Option Addr) (cap:Nat) (t:List BrT) (inc:Int) (w:World) (h:SliceOf encBr 2 w w.heap.size A t) (hB:BrOk t) (h0:0≤inc) (h1:inc≤1000000000000) :
  Calls Tryz.prog 181 #[.slice A t.length cap,.int .i64 inc] w fun e w'=>e = .returned (.tuple #[.int .i64 (exactN t inc),.int .i64 0])∧Below w.heap.size w w':=by
 have HB:=Lib.hid hB
 have hl:=hB.len
 have hcon:=split29_yes A cap t inc w h hB h0 h1
 have HC:=Lib.hid hcon
 clear hcon hB
 go_enter Tryz.func181,Tryz.ntmps181
 go_wp2_with fail
 refine Calls.mono HC.out ?_
 rintro e w1 ⟨g,rfl,hg,hR,hb1⟩
 have hS1:=h.adv hb1
 clear HC h
 go_wp2
 go_loopw [8,9] (fun n i wr=>∃ k q:Nat,k≤t.length∧i = .int .i64 k∧n = .int .i64 (exTo t inc k)∧Hid (wr = w1.drewN q)) (fun _ i _=>t.length - (intOf i).toNat)
 case atStart=>exact ⟨0,0,by omega,rfl,rfl,rfl⟩
 case round =>
  obtain ⟨k,q,hk,rfl,rfl,hw⟩:=hrel
  have hSk:SliceOf encBr 2 wr wr.heap.size A t:=by rw [hw.out]; exact hS1.advD q
  have hRk:RowI wr g (splitN t inc):=by rw [hw.out]; exact hR.drewN q
  have hbw:Below w.heap.size w wr:=by rw [hw.out]; exact below_drewN hb1 q
  obtain ⟨x0,x1⟩:=exTo_bd (inc:=inc) HB.out h0 hk
  have x2:exTo t inc k≤1000000000000000000:=by omega
  by_cases hlt:k < t.length
  ·
   obtain ⟨b1,off1,rfl,hb2,hc1⟩:=hSk.at_ hlt
   have c1:=hc1 1 _ rfl
   have z0:=hRk.cell (i:=k) (by rw [splitN_len]; exact hlt)
   rw [splitN_at t inc hlt] at z0
   have HT:=Lib.hid (exTo_succ t inc k)
   rw [brD hlt] at HT
   obtain ⟨y0,y1⟩:=exTo_bd (inc:=inc) HB.out h0 (show k+1≤t.length by omega)
   rw [HT.out] at y0 y1
   have s0:=split_bd (t:=t) (inc:=inc) k
   have s1:=split_le HB.out h0 hlt
   have r0:=HB.out.r0 k hlt
   have r1:=HB.out.r1 k hlt
   rw [brD hlt] at r0 r1
   have m0:0≤splitAt' t inc k * t[k].rate:=Int.mul_nonneg s0 r0
   have m1:splitAt' t inc k * t[k].rate≤1000000000000000000:=by omega
   have m2:exTo t inc k+splitAt' t inc k * t[k].rate≤1000000000000000000:=by omega
   clear hc1 x1 y1
   generalize splitAt' t inc k = sp at *
   generalize hex:exTo t inc k = ex at *
   clear hex
   go_wp2
   go_quiet (fail)
   go_wp2
   go_roundw
   case rel=>exact ⟨k+1,q+nq,by omega,by go_num,by rw [HT.out],by show wr.drewN nq = w1.drewN (q+nq); rw [hw.out,World.drewN_drewN]⟩
   case measure=>simp [intOf]; omega
  ·
   obtain rfl:k = t.length:=by omega
   have HE:Hid (exactN t inc = exTo t inc t.length):=rfl
   go_wp2
   go_ret2
   exact ⟨by rw [HE.out]; rfl,hbw⟩
end Go.Proofs.YtjncpgbhokjbfaaGreat
namespace Go.Proofs.YtjncpgbhokjbfaaGreat
open Go.RowKit
set_option maxHeartbeats 4000000 in
theorem round29_ok (n unit mode : Int) (w:World) (h0:0≤n) (h1:n≤1000000000000000000) (u0:1≤unit) (u1:unit≤1000000) (m0:0≤mode) (m1:mode≤6) :
  Calls Tryz.prog 182 #[.int .i64 n,.int .i64 unit,.int .i64 mode] w fun e w'=>e = .returned (.int .i64 (rnd n (1000000 * unit) mode * unit))∧∃ q,w' = w.drewN q:=by
 have e1:n.tdiv (1000000 * unit) = n / (1000000 * unit):=Int.tdiv_eq_ediv_of_nonneg h0
 have e2:n.tmod (1000000 * unit) = n % (1000000 * unit):=Int.tmod_eq_emod_of_nonneg h0
 have hR:rnd n (1000000 * unit) mode = if n % (1000000 * unit) = 0 then n / (1000000 * unit) else if upB (n / (1000000 * unit)) (cmpI (n % (1000000 * unit)) (1000000 * unit - n % (1000000 * unit))) (decide (0 < n)) mode then n / (1000000 * unit)+1 else n / (1000000 * unit):=rfl
 have r0:=Int.emod_nonneg n (show 1000000 * unit ≠ 0 by omega)
 have r1:=Int.emod_lt_of_pos n (show 0 < 1000000 * unit by omega)
 have q0:0≤n / (1000000 * unit):=Int.ediv_nonneg h0 (by omega)
 have k3:=Int.ediv_mul_le n (show (1000000 * unit) ≠ 0 by omega)
 have k4:n / (1000000 * unit) * (1000000 * unit) = 1000000 * (n / (1000000 * unit) * unit):=by
  rw [← Int.mul_assoc,Int.mul_comm _ 1000000,Int.mul_assoc]
 have p0:0≤n / (1000000 * unit) * unit:=Int.mul_nonneg q0 (by omega)
 have p1:n / (1000000 * unit) * unit≤1000000000000:=by omega
 have p2:(n / (1000000 * unit)+1) * unit = n / (1000000 * unit) * unit+unit:=by rw [Int.add_mul,Int.one_mul]
 have p3:0≤(n / (1000000 * unit)+1) * unit:=by omega
 have p4:(n / (1000000 * unit)+1) * unit≤1000001000000:=by omega
 have q1:n / (1000000 * unit)≤1000000000000:=by
  have:n / (1000000 * unit) * 1≤n / (1000000 * unit) * unit:=Int.mul_le_mul_of_nonneg_left u0 q0
  omega
 have hpos:n % (1000000 * unit) ≠ 0→0 < n:=fun hh=>by
  rcases Int.lt_or_eq_of_le h0 with h | h
  ·
   exact h
  ·
   subst h; simp at hh
 have hq2:(n / (1000000 * unit)).tmod 2 = n / (1000000 * unit) % 2:=Int.tmod_eq_emod_of_nonneg q0
 have HQ2:=Lib.hid hq2
 have HP:=Lib.hid hpos
 have HR:=Lib.hid hR
 have hdd:1000000 * unit≤1000000000000:=by omega
 have hd0:((1000000 * unit:Int) == 0) = false:=by rw [beq_eq_false_iff_ne]; omega
 clear hR k3 k4 p2 hpos
 have hmodes:mode = 0 ∨ mode = 1 ∨ mode = 2 ∨ mode = 3 ∨ mode = 4 ∨ mode = 5 ∨ mode = 6:=by omega
 clear m0 m1
 rcases hmodes with rfl | rfl | rfl | rfl | rfl | rfl | rfl
 all_goals
  go_enter Tryz.func182,Tryz.ntmps182
  go_wp2
  go_quiet (fail)
  go_wp2
  all_goals
   go_ret
   refine ⟨?_,nq,rfl⟩
   rw [HR.out]
   have HP2:=HP.out
   have HQ3:=HQ2.out
   generalize n % (1000000 * unit) = r at *
   generalize n / (1000000 * unit) = q at *
   simp only [upB,cmpI,beq_iff_eq,beq_eq_false_iff_ne,ne_eq,HQ3] at *
   clear HR HQ2 HP e1 e2 p0 p1 p3 p4 h1 hd0 hdd
   repeat' split
   all_goals first | rfl | (exfalso; omega) | (exfalso; rename_i hz; simp at hz; omega) | (exfalso; rename_i hz; simp at hz)
set_option maxHeartbeats 1000000 in
theorem tax29_yes (A:Option Addr) (cap:Nat) (t:List BrT) (inc unit mode : Int) (w:World) (h:SliceOf encBr 2 w w.heap.size A t) (hB:BrOk t) (h0:0≤inc) (h1:inc≤1000000000000) (u0:1≤unit) (u1:unit≤1000000) (m0:0≤mode) (m1:mode≤6) :
  Calls Tryz.prog 166 #[.slice A t.length cap,.int .i64 inc,.int .i64 unit,.int .i64 mode] w fun e w'=>e = .returned (.tuple #[.int .i64 (taxN t inc unit mode),.int .i64 0])∧Below w.heap.size w w':=by
 obtain ⟨x0,x1⟩:=exTo_bd (inc:=inc) hB h0 (Nat.le_refl _)
 have hx:exTo t inc t.length = exactN t inc:=rfl
 rw [hx] at x0 x1
 have x2:exactN t inc≤1000000000000000000:=by omega
 have hm:=modeB_yes m0 m1
 go_enter Tryz.func166,Tryz.ntmps166
 go_wp2_with fail
 refine (exact29_yes A cap t inc w h hB h0 h1).mono ?_
 rintro e w1 ⟨rfl,hb1⟩
 clear x1
 go_wp2_with fail
 refine (mode2_any _ _).mono ?_
 rintro e w' ⟨rfl,rfl⟩
 rw [hm]
 go_wp2_with fail
 refine (round29_ok _ _ _ _ x0 x2 u0 u1 m0 m1).mono ?_
 rintro e w2 ⟨rfl,q,rfl⟩
 go_wp2
 go_ret2
 exact ⟨rfl,below_drewN hb1 q⟩
theorem scTo_skip {t:List BrT} {num den : Int} {k:Nat} (h:scSkip t num den k = true) : scTo t num den (k+1) = scTo t num den k:=by rw [scTo,if_pos h]
theorem scTo_keep {t:List BrT} {num den : Int} {k:Nat} (h:scSkip t num den k = false) : scTo t num den (k+1) = scTo t num den k++[⟨scF t num den k,(t.getD k zBr).rate⟩]:=by rw [scTo,if_neg (by simp [h])]
set_option maxRecDepth 100000 in
set_option maxHeartbeats 2000000 in
theorem scale29_yes (A:Option Addr) (cap:Nat) (t:List BrT) (num den : Int) (w:World) (h:SliceOf encBr 2 w w.heap.size A t) (hB:BrOk t) (hn:0≤num) (hd:1≤den) (hnd:num≤den) (hd1:den≤53) :
  Calls Tryz.prog 167 #[.slice A t.length cap,.int .i64 num,.int .i64 den] w fun e w'=>∃ v,e = .returned (.tuple #[v,.int .i64 0])∧Own encBr 2 223 w' w.heap.size v (scaleN t num den)∧Below w.heap.size w w':=by
 have HB:=Lib.hid hB
 have hl:=hB.len
 have hcon:=valid29_yes A cap t w _ h hB
 have HC:=Lib.hid hcon
 have hd0:(den == 0) = false:=by rw [beq_eq_false_iff_ne]; omega
 clear hcon hB
 go_enter Tryz.func167,Tryz.ntmps167
 go_wp2_with fail
 refine Calls.mono HC.out ?_
 rintro e w1 ⟨rfl,q,hw1⟩
 have hbel1:Below w.heap.size w w1:=by rw [hw1]; exact below_drewN (Below.refl _ _) q
 have hS1:SliceOf encBr 2 w1 w1.heap.size A t:=h.adv hbel1
 have hws:=hbel1.size
 clear hw1 HC h
 go_wp2
 go_loopw [8,9] (fun v i wr=>∃ k:Nat,k≤t.length∧i = .int .i64 k∧Own encBr 2 223 wr w1.heap.size v (scTo t num den k)∧Below w1.heap.size w1 wr) (fun _ i _=>t.length - (intOf i).toNat)
 case atStart=>exact ⟨0,by omega,rfl,Own.nil_ _ _,Below.refl _ _⟩
 case round =>
  obtain ⟨k,hk,rfl,hown,hbel⟩:=hrel
  have hSk:=hS1.adv hbel
  have hbs:=hbel.size
  by_cases hlt:k < t.length
  ·
   obtain ⟨b,off,rfl,hb,hc⟩:=hSk.at_ hlt
   have c0:=hc 0 _ rfl
   have c1:=hc 1 _ rfl
   simp only [Nat.add_zero] at c0
   have h4:=HB.out.nonneg hlt
   have h5:=HB.out.hi k hlt
   have hsf:scF t num den k = t[k].frm * num / den:=by rw [scF,brD hlt]
   rw [brD hlt] at h4 h5
   have p0:0≤t[k].frm * num:=Int.mul_nonneg h4 hn
   have p1:t[k].frm * num≤1000000000000 * 53:=Int.mul_le_mul h5 (by omega) hn (by omega)
   have e1:(t[k].frm * num).tdiv den = t[k].frm * num / den:=Int.tdiv_eq_ediv_of_nonneg p0
   obtain ⟨s0,s1⟩:=scF_bd (t:=t) HB.out hn hd hnd hlt
   rw [hsf] at s0 s1
   rw [brD hlt] at s1
   have hki:(k:Int) < (t.length:Int):=by omega
   have HSF:=Lib.hid hsf
   have hr7:=fun q hq=>(hown.block_lt (g:=q) hq).1
   have hlen:(scTo t num den k).length≤24:=by have:=(scOk HB.out hn hd hnd k hk).len; omega
   clear hc hsf
   by_cases hlt2:k+1 < t.length
   ·
    obtain ⟨b1,off1,hA1,hb2,hc1⟩:=hSk.at_ hlt2
    injection hA1 with hA1
    injection hA1 with hA1 hA2
    subst hA1 hA2
    have c2:=hc1 0 _ rfl
    simp only [Nat.add_zero] at c2
    have h6:=HB.out.nonneg hlt2
    have h7:=HB.out.hi (k+1) hlt2
    have hsg:scF t num den (k+1) = t[k+1].frm * num / den:=by rw [scF,brD hlt2]
    obtain ⟨s2,s3⟩:=scF_bd (t:=t) HB.out hn hd hnd hlt2
    rw [hsg] at s2 s3
    rw [brD hlt2] at h6 h7 s3
    have p2:0≤t[k+1].frm * num:=Int.mul_nonneg h6 hn
    have p3:t[k+1].frm * num≤1000000000000 * 53:=Int.mul_le_mul h7 (by omega) hn (by omega)
    have e2:(t[k+1].frm * num).tdiv den = t[k+1].frm * num / den:=Int.tdiv_eq_ediv_of_nonneg p2
    have hki2:(k:Int)+1 < (t.length:Int):=by omega
    have HSG:=Lib.hid hsg
    clear hc1 hsg
    by_cases hsk:t[k+1].frm * num / den = t[k].frm * num / den
    ·
     have hsk':(t[k+1].frm * num / den == t[k].frm * num / den) = true:=by simp [hsk]
     have HT:=Lib.hid (scTo_skip (t:=t) (num:=num) (den:=den) (k:=k) (by simp [scSkip,hlt2,HSF.out,HSG.out,hsk]))
     rw [hsk] at e2
     clear hsk hsk' HSG HSF
     generalize t[k].frm * num / den = sc1 at *
     go_wp2
     go_roundw
     case rel=>exact ⟨k+1,by omega,by go_num,by rw [HT.out]; exact hown,hbel⟩
     case measure=>simp [intOf]; omega
    ·
     have hsk':(t[k+1].frm * num / den == t[k].frm * num / den) = false:=by rw [beq_eq_false_iff_ne]; exact hsk
     have HT:=Lib.hid (scTo_keep (t:=t) (num:=num) (den:=den) (k:=k) (by simp [scSkip,hlt2,HSF.out,HSG.out,hsk]))
     rw [HSF.out,brD hlt] at HT
     clear hsk HSG HSF
     generalize t[k].frm * num / den = sc1 at *
     generalize t[k+1].frm * num / den = sc2 at *
     go_wp2_with (at_builtin; (refine wpList_append_one _ _ 66 ⟨sc1,t[k].rate⟩ _ 16 _ infoBr Tryz.underlying66 hown encBr_len (by omega) rfl (encBr_one _) (by omega) (by omega) hbs (by rfl) (by rfl) (by rfl) (by rfl) (by simp) (by rfl) ?_); intro v2 w6 hown6 hg6)
     go_roundw
     case rel=>exact ⟨k+1,by omega,by go_num,by rw [HT.out]; exact hown6,bel_only hbel hg6 hr7⟩
     case measure=>simp [intOf]; omega
   ·
    have hki2:¬ (k:Int)+1 < (t.length:Int):=by omega
    have HT:=Lib.hid (scTo_keep (t:=t) (num:=num) (den:=den) (k:=k) (by simp [scSkip,hlt2]))
    rw [HSF.out,brD hlt] at HT
    clear HSF
    generalize t[k].frm * num / den = sc1 at *
    go_wp2_with (at_builtin; (refine wpList_append_one _ _ 66 ⟨sc1,t[k].rate⟩ _ 16 _ infoBr Tryz.underlying66 hown encBr_len (by omega) rfl (encBr_one _) (by omega) (by omega) hbs (by rfl) (by rfl) (by rfl) (by rfl) (by simp) (by rfl) ?_); intro v2 w6 hown6 hg6)
    go_roundw
    case rel=>exact ⟨k+1,by omega,by go_num,by rw [HT.out]; exact hown6,bel_only hbel hg6 hr7⟩
    case measure=>simp [intOf]; omega
  ·
   obtain rfl:k = t.length:=by omega
   have HSN:Hid (scaleN t num den = scTo t num den t.length):=rfl
   go_wp2
   go_ret2
   exact ⟨_,rfl,by rw [HSN.out]; exact hown.weaken (by omega),bel_adv hbel1 hbel⟩
end Go.Proofs.YtjncpgbhokjbfaaGreat
namespace Go.Proofs.YtjncpgbhokjbfaaGreat
open Go.RowKit
theorem rwD {t:List RowT} {k:Nat} (h:k < t.length) : t.getD k zRw = t[k]:=by rw [List.getD_eq_getElem?_getD,List.getElem?_eq_getElem h]; rfl
structure TarM where
 t:TarT
 Ab:Option Addr
 cb:Nat
 Ar:Option Addr
 cr:Nat
def TarM.val (m:TarM) : Value:=.agg #[.int .i64 m.t.method,.slice m.Ab m.t.brs.length m.cb,.int .i64 m.t.allowance,.int .i64 m.t.credit,.int .i64 m.t.unit,.int .i64 m.t.mode,.slice m.Ar m.t.rows.length m.cr]
structure TarM.In (m:TarM) (w:World) : Prop where
 brs:SliceOf encBr 2 w w.heap.size m.Ab m.t.brs
 rows:SliceOf encRw 2 w w.heap.size m.Ar m.t.rows
theorem TarM.In.adv {m:TarM} {w w' : World} (h:m.In w) (hb:Below w.heap.size w w') : m.In w':=⟨h.brs.adv hb,h.rows.adv hb⟩
set_option maxHeartbeats 400000 in
theorem in30_any (n m : Int) (w:World) : Calls Tryz.prog 103 #[.int .i64 n,.int .i64 m] w fun e w'=>e = .returned (.bool (inB n m))∧w = w':=by
 by_cases h1:0≤n <;> by_cases h2:n≤m
 all_goals
  have hb:inB n m = (decide (0≤n) && decide (n≤m)):=by simp [inB]
  have HB:=Lib.hid hb; clear hb
  go_enter Tryz.func103,Tryz.ntmps103
  go_wp2
  go_ret
  exact ⟨by rw [HB.out]; simp [h1,h2],rfl⟩
set_option maxRecDepth 100000 in
set_option maxHeartbeats 2000000 in
theorem table30_yes (A:Option Addr) (cap:Nat) (t:List RowT) (w:World) (B:Nat) (h:SliceOf encRw 2 w B A t) (hB:RowsOk t) :
  Calls Tryz.prog 147 #[.slice A t.length cap] w fun e w'=>e = .returned (.bool true)∧∃ q,w' = w.drewN q:=by
 have HB:=Lib.hid hB
 have hne:=hB.ne
 have hl:=hB.len
 have hz:=hB.zero
 rw [rwD hne] at hz
 have hz0:((t.length:Int) == 0) = false:=by rw [beq_eq_false_iff_ne]; omega
 obtain ⟨b,off,rfl,hb,hc⟩:=h.at_ hne
 have d0:=hc 0 _ rfl
 simp only [Nat.add_zero,Nat.zero_mul] at d0
 rw [hz] at d0
 have hi0:(0:Int) < (t.length:Int):=by omega
 clear hz hc hB
 go_enter Tryz.func147,Tryz.ntmps147
 go_wp2
 go_loopw [3] (fun i wr=>∃ k q:Nat,k≤t.length∧i = .int .i64 k∧Hid (wr = w.drewN q)) (fun i _=>t.length - (intOf i).toNat)
 case atStart=>exact ⟨0,0,by omega,rfl,rfl⟩
 case round =>
  obtain ⟨k,q,hk,rfl,hw⟩:=hrel
  by_cases hlt:k < t.length
  ·
   have hx:SliceOf encRw 2 wr B (some ⟨b,off,none⟩) t:=by rw [hw.out]; exact h
   have h1:=HB.out.hi k hlt
   have h2:=HB.out.t0 k hlt
   have h3:=HB.out.t1 k hlt
   rw [rwD hlt] at h1 h2 h3
   obtain ⟨b1,off1,hA1,hb1,hc1⟩:=hx.at_ hlt
   injection hA1 with hA1
   injection hA1 with hA1 hA2
   subst hA1 hA2
   have c0:=hc1 0 _ rfl
   have c1:=hc1 1 _ rfl
   simp only [Nat.add_zero] at c0
   have hki:(k:Int) < (t.length:Int):=by omega
   have g1:decide (1000000000 < t[k].frm) = false:=by simp; omega
   have hin:inB t[k].tax 1000000000 = true:=inB_iff.2 ⟨h2,h3⟩
   clear hc1
   rcases k with _ | m
   ·
    have hk0:(0:Int) < (t.length:Int):=by omega
    simp only [Nat.zero_mul,Nat.add_zero] at c0 c1
    go_wp2
    go_quiet ((go_at_call 103; exact Calls.quiet_of_same ((in30_any _ _ _).mono fun e w' ⟨h1,h2⟩=>⟨h1,h2.symm⟩)))
    rw [hin]
    go_wp2
    go_roundw
    case rel=>exact ⟨1,q+nq,by omega,by go_num,by show wr.drewN nq = w.drewN (q+nq); rw [hw.out,World.drewN_drewN]⟩
    case measure=>simp [intOf]; omega
   ·
    have hlm:m < t.length:=by omega
    have ha:=HB.out.asc m hlt
    rw [rwD hlm,rwD hlt] at ha
    obtain ⟨b2,off2,hA3,hb2,hc2⟩:=hx.at_ hlm
    injection hA3 with hA3
    injection hA3 with hA3 hA4
    subst hA3 hA4
    have e0:=hc2 0 _ rfl
    simp only [Nat.add_zero] at e0
    clear hc2
    have g0:decide (t[m+1].frm≤t[m].frm) = false:=by simp; omega
    have hmi:(m:Int) < (t.length:Int):=by omega
    have hmi2:(m:Int)+1 < (t.length:Int):=by omega
    have hp:decide ((0:Int) < (m:Int)+1) = true:=by rw [decide_eq_true_eq]; omega
    go_wp2
    go_quiet ((go_at_call 103; exact Calls.quiet_of_same ((in30_any _ _ _).mono fun e w' ⟨h1,h2⟩=>⟨h1,h2.symm⟩)))
    rw [hin]
    go_wp2
    go_roundw
    case rel=>exact ⟨m+2,q+nq,by omega,by go_num,by show wr.drewN nq = w.drewN (q+nq); rw [hw.out,World.drewN_drewN]⟩
    case measure=>simp [intOf]; omega
  ·
   go_wp2
   go_ret
   exact ⟨rfl,q,hw.out⟩
set_option maxRecDepth 100000 in
set_option maxHeartbeats 2000000 in
theorem valid30_yes (m:TarM) (w:World) (h:m.In w) (hT:TarOk m.t) : Calls Tryz.prog 102 #[m.val] w fun e w'=>e = .returned (.bool true)∧Below w.heap.size w w':=by
 obtain ⟨⟨method,brs,al,cr,unit,mode,rows⟩,Ab,cb,Ar,cr'⟩:=m
 obtain ⟨hb,hr⟩:=h
 obtain ⟨m0,m1,hbr,a0,a1,c0,c1,u0,u1,mo0,mo1,hrows,hnone⟩:=hT
 simp only at hb hr m0 m1 hbr a0 a1 c0 c1 u0 u1 mo0 mo1 hrows hnone
 unfold TarM.val
 simp only
 have hm:=modeB_yes mo0 mo1
 have hi1:inB al 1000000000 = true:=inB_iff.2 ⟨a0,a1⟩
 have hi2:inB cr 1000000000 = true:=inB_iff.2 ⟨c0,c1⟩
 have HBR:=Lib.hid hbr
 have HRW:=Lib.hid hrows
 have HNO:=Lib.hid hnone
 clear hbr hrows hnone
 go_enter Tryz.func102,Tryz.ntmps102
 have hB:=Blk.new w 69 #[.int .i64 method,.slice Ab brs.length cb,.int .i64 al,.int .i64 cr,.int .i64 unit,.int .i64 mode,.slice Ar rows.length cr']
 have hbel:=below_new w (.cells #[.int .i64 method,.slice Ab brs.length cb,.int .i64 al,.int .i64 cr,.int .i64 unit,.int .i64 mode,.slice Ar rows.length cr'] 69)
 go_upto_region 1 with fail
 generalize w.alloc (Obj.cells _ _) = W at hB hbel ⊢
 have z0:=hB.cell 0
 have z1:=hB.cell 1
 have z2:=hB.cell 2
 have z3:=hB.cell 3
 have z4:=hB.cell 4
 have z5:=hB.cell 5
 have z6:=hB.cell 6
 simp only [nqg,nqh,nqi] at z0 z1 z2 z3 z4 z5 z6
 go_wp2_with fail
 refine (valid29_yes Ab cb brs W _ (hb.adv hbel) HBR.out).mono ?_
 rintro e w1 ⟨rfl,q1,hw1⟩
 have hB1:Blk w1 w.heap.size 69 #[.int .i64 method,.slice Ab brs.length cb,.int .i64 al,.int .i64 cr,.int .i64 unit,.int .i64 mode,.slice Ar rows.length cr']:=by rw [hw1]; exact hB.drewN q1
 have hbel1:Below w.heap.size w w1:=by rw [hw1]; exact below_drewN hbel q1
 clear hw1 hB hbel z0 z1 z2 z3 z4 z5 z6
 have z0:=hB1.cell 0
 have z1:=hB1.cell 1
 have z2:=hB1.cell 2
 have z3:=hB1.cell 3
 have z4:=hB1.cell 4
 have z5:=hB1.cell 5
 have z6:=hB1.cell 6
 simp only [nqg,nqh,nqi] at z0 z1 z2 z3 z4 z5 z6
 go_wp2_with fail
 refine (in30_any _ _ _).mono ?_
 rintro e w' ⟨rfl,rfl⟩
 rw [hi1]
 go_wp2_with fail
 refine (in30_any _ _ _).mono ?_
 rintro e w' ⟨rfl,rfl⟩
 rw [hi2]
 go_wp2_with fail
 refine (mode2_any _ _).mono ?_
 rintro e w' ⟨rfl,rfl⟩
 rw [hm]
 by_cases hm1:method = 1
 ·
  have hm1':(method == 1) = true:=by simp [hm1]
  go_wp2_with fail
  refine (table30_yes Ar cr' rows _ _ (hr.adv hbel1) (HRW.out hm1)).mono ?_
  rintro e w2 ⟨rfl,q2,rfl⟩
  go_wp2
  go_ret
  exact ⟨rfl,below_drewN hbel1 q2⟩
 ·
  have hm1':(method == 1) = false:=by rw [beq_eq_false_iff_ne]; exact hm1
  have hr0:=HNO.out hm1
  subst hr0
  simp only [List.length_nil] at z6
  go_wp2
  go_ret
  exact ⟨rfl,hbel1⟩
end Go.Proofs.YtjncpgbhokjbfaaGreat
