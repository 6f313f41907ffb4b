/- Joined texts: B32 B32b B32c Awake32. Conditions: as stated. -/
import Derived.Test.YtlhkojcmcmkmaaaGreatJNetP
import Derived.Test.YtlhkojcmcmkmaaaGreatJNetS
import Derived.Test.YtlhkojcmcmkmaaaGreatJBox
import Derived.Test.YtlhkojcmcmkmaaaGreatJP31b
import Derived.Test.YtlhkojcmcmkmaaaGreatJP32h
import Derived.Test.YtlhkojcmcmkmaaaGreatJOf
import Derived.Test.YtlhkojcmcmkmaaaGreatJP32m
namespace Go.Proofs.YtlhkojcmcmkmaaaGreat
open Go.RowKit Go.Sort Go.Shelf
structure FmOk (x:LineT) : Prop where
 ne:x.amount ≠ 0
 lo : -100000000000≤x.amount
 hi:x.amount≤100000000000
 kd:(x.kind = 6∧x.code = ⟨#[]⟩) ∨ ((x.kind = 9 ∨ x.kind = 10)∧x.code = ⟨#[]⟩∧0 < x.amount) ∨ ((x.kind = 1 ∨ x.kind = 2)∧nameB x.code = true) ∨ ((x.kind = 3 ∨ x.kind = 4 ∨ x.kind = 5 ∨ x.kind = 7 ∨ x.kind = 8)∧nameB x.code = true∧0 < x.amount)
set_option maxRecDepth 100000 in
set_option maxHeartbeats 4000000 in
theorem formed_name (k:Int) (c:ByteArray) (n:Int) (w:World) (hn:n ≠ 0) (h0 : -100000000000≤n) (h1:n≤100000000000) (hc:nameB c = true) (hk:k = 1 ∨ k = 2) :
  Calls Tryz.prog 46 #[.agg #[.int .i64 k,.string c,.int .i64 n]] w fun e w'=>e = .returned (.bool true)∧Below w.heap.size w w':=by
 have HN:=Lib.hid (fun w=>isName_any c w (name_max hc))
 rw [hc] at HN
 clear hc
 have hb:=below_new w (.cells #[.int .i64 k,.string c,.int .i64 n] 30)
 have hB:=Blk.new w 30 #[.int .i64 k,.string c,.int .i64 n]
 have hn':(n == 0) = false:=by simpa using hn
 rcases hk with rfl | rfl
 all_goals
  go_enter Tryz.func46,Tryz.ntmps46
  go_upto_region 1 with fail
  generalize w.alloc (Obj.cells _ _) = W at hb hB ⊢
  have z0:=hB.cell 0
  have z1:=hB.cell 1
  have z2:=hB.cell 2
  simp only [nqg,nqh,nqi] at z0 z1 z2
  go_wp2_with fail
  refine (HN.out _).mono ?_
  rintro e w' ⟨rfl,rfl⟩
  go_wp2
  go_ret
  exact ⟨rfl,hb⟩
set_option maxRecDepth 100000 in
set_option maxHeartbeats 4000000 in
theorem formed_pos (k:Int) (c:ByteArray) (n:Int) (w:World) (h0:0 < n) (h1:n≤100000000000) (hc:nameB c = true) (hk:k = 3 ∨ k = 4 ∨ k = 5 ∨ k = 7 ∨ k = 8) :
  Calls Tryz.prog 46 #[.agg #[.int .i64 k,.string c,.int .i64 n]] w fun e w'=>e = .returned (.bool true)∧Below w.heap.size w w':=by
 have HN:=Lib.hid (fun w=>isName_any c w (name_max hc))
 rw [hc] at HN
 clear hc
 have hb:=below_new w (.cells #[.int .i64 k,.string c,.int .i64 n] 30)
 have hB:=Blk.new w 30 #[.int .i64 k,.string c,.int .i64 n]
 have hn':(n == 0) = false:=by simp; omega
 rcases hk with rfl | rfl | rfl | rfl | rfl
 all_goals
  go_enter Tryz.func46,Tryz.ntmps46
  go_upto_region 1 with fail
  generalize w.alloc (Obj.cells _ _) = W at hb hB ⊢
  have z0:=hB.cell 0
  have z1:=hB.cell 1
  have z2:=hB.cell 2
  simp only [nqg,nqh,nqi] at z0 z1 z2
  go_wp2_with fail
  refine (HN.out _).mono ?_
  rintro e w' ⟨rfl,rfl⟩
  go_wp2
  go_ret
  exact ⟨rfl,hb⟩
set_option maxRecDepth 100000 in
set_option maxHeartbeats 4000000 in
theorem formed_bare (k:Int) (n:Int) (w:World) (hn:n ≠ 0) (h0 : -100000000000≤n) (h1:n≤100000000000) (hk:k = 6 ∨ (k = 9∧0 < n) ∨ (k = 10∧0 < n)) :
  Calls Tryz.prog 46 #[.agg #[.int .i64 k,.string ⟨#[]⟩,.int .i64 n]] w fun e w'=>e = .returned (.bool true)∧Below w.heap.size w w':=by
 have hb:=below_new w (.cells #[.int .i64 k,.string ⟨#[]⟩,.int .i64 n] 30)
 have hB:=Blk.new w 30 #[.int .i64 k,.string ⟨#[]⟩,.int .i64 n]
 have hn':(n == 0) = false:=by simpa using hn
 rcases hk with rfl | ⟨rfl,hp⟩ | ⟨rfl,hp⟩
 all_goals
  go_enter Tryz.func46,Tryz.ntmps46
  go_upto_region 1 with fail
  generalize w.alloc (Obj.cells _ _) = W at hb hB ⊢
  have z0:=hB.cell 0
  have z1:=hB.cell 1
  have z2:=hB.cell 2
  simp only [nqg,nqh,nqi] at z0 z1 z2
  go_wp2
  go_ret
  exact ⟨rfl,hb⟩
theorem formed_yes (x:LineT) (w:World) (h:FmOk x) : Calls Tryz.prog 46 #[.agg #[.int .i64 x.kind,.string x.code,.int .i64 x.amount]] w fun e w'=>e = .returned (.bool true)∧Below w.heap.size w w':=by
 rcases h.kd with ⟨hk,hc⟩ | ⟨hk,hc,hp⟩ | ⟨hk,hc⟩ | ⟨hk,hc,hp⟩
 ·
  rw [hc]; exact formed_bare _ _ w h.ne h.lo h.hi (.inl hk)
 ·
  rw [hc]; exact formed_bare _ _ w h.ne h.lo h.hi (.inr (hk.imp (fun a=>⟨a,hp⟩) (fun a=>⟨a,hp⟩)))
 ·
  exact formed_name _ _ _ w h.ne h.lo h.hi hc hk
 ·
  exact formed_pos _ _ _ w hp h.hi hc hk
end Go.Proofs.YtlhkojcmcmkmaaaGreat
namespace Go.Proofs.YtlhkojcmcmkmaaaGreat
open Go.RowKit Go.Sort Go.Shelf
def sumK (k:Int) : List LineT→Int
 | []=>0
 | x :: r=>(if x.kind = k then x.amount else 0)+sumK k r
theorem sumK_append (k:Int) (l m : List LineT) : sumK k (l++m) = sumK k l+sumK k m:=by
 induction l with
 | nil=>simp [sumK]
 | cons a l ih=>simp [sumK,ih]; omega
theorem sumK_take (k:Int) (l:List LineT) (i:Nat) (h:i < l.length) : sumK k (l.take (i+1)) = sumK k (l.take i)+if l[i].kind = k then l[i].amount else 0:=by
 rw [List.take_succ_eq_append_getElem h,sumK_append]; simp [sumK]
theorem sumK_bd (k:Int) (l:List LineT) (h : ∀ x ∈ l,-100000000000≤x.amount∧x.amount≤100000000000) : -(l.length * 100000000000)≤sumK k l∧sumK k l≤l.length * 100000000000:=by
 induction l with
 | nil=>simp [sumK]
 | cons a l ih =>
  have h1:=h a (by simp)
  have h2:=ih (fun x hx=>h x (by simp [hx]))
  simp only [sumK,List.length_cons]
  rw [show ((l.length+1:Nat) : Int) * 100000000000 = l.length * 100000000000+100000000000 by rw [Int.natCast_add,Int.add_mul]; omega]
  split <;> omega
def sumsV (l:List LineT) : Array Value:=((List.range 11).map fun k : Nat=>Value.int .i64 (sumK (k:Int) l)).toArray
theorem sumsV_at (l:List LineT) (k:Nat) (h:k < 11) : (sumsV l)[k]? = some (.int .i64 (sumK (k:Int) l)):=by
 simp [sumsV,h]
theorem sumsV_set (l:List LineT) (i:Nat) (h:i < l.length) (kd:Nat) (hk:l[i].kind = (kd:Int)) (hkd:kd < 11) : (sumsV (l.take i)).setIfInBounds kd (.int .i64 (sumK (kd:Int) (l.take i)+l[i].amount)) = sumsV (l.take (i+1)):=by
 apply Array.ext_getElem?
 intro j
 rw [Array.getElem?_setIfInBounds]
 by_cases hj:kd = j
 ·
  subst hj
  rw [if_pos rfl,sumsV_at _ _ hkd,sumK_take _ _ _ h,if_pos hk,if_pos (by simp [sumsV]; omega)]
 ·
  rw [if_neg hj]
  by_cases hj2:j < 11
  ·
   rw [sumsV_at _ _ hj2,sumsV_at _ _ hj2,sumK_take _ _ _ h,if_neg (by rw [hk]; omega),Int.add_zero]
  ·
   rw [Array.getElem?_eq_none (by simp [sumsV]; omega),Array.getElem?_eq_none (by simp [sumsV]; omega)]
structure SlBal (b:BasesT) (legal:Int) (ls:List LineT) : Prop where
 len:ls.length≤256
 fm:∀ x ∈ ls,FmOk x
 sorted:RL.Sorted ls
 one:sumK 9 ls = 0 ∨ sumK 10 ls = 0
 c:b.c = sumK 1 ls
 g:b.g = b.c+sumK 2 ls
 lg:legal = b.c - sumK 4 ls - sumK 6 ls
 net:legal - sumK 3 ls - sumK 7 ls - sumK 8 ls = sumK 9 ls - sumK 10 ls
theorem order_below (x y : LineT) (_hl:lessL x y = true) (W:World) : Calls Tryz.prog 47 #[.agg #[.int .i64 x.kind,.string x.code,.int .i64 x.amount],.agg #[.int .i64 y.kind,.string y.code,.int .i64 y.amount]] W fun e w'=>e = .returned (.int .i64 (cmpLn x y))∧RowKit.Below W.heap.size W w':=by
 refine (order_any x y W).mono ?_
 rintro e w' ⟨rfl,q,os,rfl⟩
 refine ⟨rfl,⟨rfl,rfl,rfl,?_,fun k hk=>?_⟩⟩
 ·
  simp [grow]
 ·
  simp [grow,Array.getElem?_append,hk]
theorem cmpLn_neg {x y : LineT} (hl:lessL x y = true) : cmpLn x y < 0:=by
 rw [← ltLn] at hl
 simpa [ltOf] using hl
set_option maxRecDepth 100000 in
set_option maxHeartbeats 8000000 in
theorem balanced_yes (b:BasesT) (legal:Int) (A:Option Addr) (cap:Nat) (ls:List LineT) (w:World) (h:SliceOf encL 3 w w.heap.size A ls) (hb:SlBal b legal ls) :
  Calls Tryz.prog 16 #[.agg #[.int .i64 b.g,.int .i64 b.c,.int .i64 b.t,.int .i64 b.i,.int .i64 b.a,.int .i64 legal,.slice A ls.length cap]] w fun e w'=>e = .returned (.bool true)∧RowKit.Below w.heap.size w w':=by
 have HB:=Lib.hid hb
 have hl:=hb.len
 have HFM:=Lib.hid (fun x hx W=>formed_yes x W (hb.fm x hx))
 have HLN:Hid (∀ x ∈ ls,-100000000000≤x.amount∧x.amount≤100000000000):=fun x hx=>⟨(hb.fm x hx).lo,(hb.fm x hx).hi⟩
 have HBD:Hid (∀ (k:Int) (i:Nat),i≤256→-25600000000000≤sumK k (ls.take i)∧sumK k (ls.take i)≤25600000000000):=fun k i hi=>by
  have:=sumK_bd k (ls.take i) (fun x hx=>HLN.out x (List.mem_of_mem_take hx))
  have h2:(ls.take i).length≤256:=by simp; omega
  omega
 have HSO:Hid (∀ i (h1:i+1 < ls.length),lessL ls[i] ls[i+1] = true):=fun i h1=>List.pairwise_iff_getElem.1 hb.sorted i (i+1) (by omega) h1 (by omega)
 have HKD:Hid (∀ x ∈ ls,∃ kd:Nat,x.kind = (kd:Int)∧1≤kd∧kd≤10):=fun x hx=>by
  have:=(hb.fm x hx).kd
  exact ⟨x.kind.toNat,by omega,by omega,by omega⟩
 clear hb
 go_enter Tryz.func16,Tryz.ntmps16
 have hBs:=Blk.new w 27 #[.int .i64 b.g,.int .i64 b.c,.int .i64 b.t,.int .i64 b.i,.int .i64 b.a,.int .i64 legal,.slice A ls.length cap]
 have hbn:=below_new w (.cells #[.int .i64 b.g,.int .i64 b.c,.int .i64 b.t,.int .i64 b.i,.int .i64 b.a,.int .i64 legal,.slice A ls.length cap] 27)
 go_upto_region 1 with fail
 generalize w.alloc (Obj.cells _ _) = W1 at hBs hbn ⊢
 have z0:=hBs.cell 0
 have z1:=hBs.cell 1
 have z2:=hBs.cell 2
 have z3:=hBs.cell 3
 have z4:=hBs.cell 4
 have z5:=hBs.cell 5
 have z6:=hBs.cell 6
 simp only [nqg,nqh,nqi] at z0 z1 z2 z3 z4 z5 z6
 go_upto_region 4 with fail
 have hBk:=Blk.new W1 95 #[.int .i64 0,.int .i64 0,.int .i64 0,.int .i64 0,.int .i64 0,.int .i64 0,.int .i64 0,.int .i64 0,.int .i64 0,.int .i64 0,.int .i64 0]
 have hb2:=below_new W1 (.cells #[.int .i64 0,.int .i64 0,.int .i64 0,.int .i64 0,.int .i64 0,.int .i64 0,.int .i64 0,.int .i64 0,.int .i64 0,.int .i64 0,.int .i64 0] 95)
 generalize W1.alloc (Obj.cells _ _) = W2 at hBk hb2 ⊢
 have hBk0:Blk W2 W1.heap.size 95 (sumsV (ls.take 0)):=hBk
 have z6':=hb2.cell (p:=⟨w.heap.size,6,none⟩) (by exact hBs.lt) |>.trans z6
 clear z0 z1 z2 z3 z4 z5 z6 hBk
 go_wp2_with fail
 go_loopw [16] (fun i wr=>∃ k:Nat,k≤ls.length∧i = .int .i64 k∧Blk wr W1.heap.size 95 (sumsV (ls.take k))∧RowKit.Below W1.heap.size W1 wr) (fun i _=>ls.length - (intOf i).toNat)
 case atStart=>exact ⟨0,by omega,rfl,hBk0,hb2⟩
 case round =>
  rename World=>wr
  clear z6' hBk0
  obtain ⟨k,hk,rfl,hK,hbr⟩:=hrel
  have hBr:=hBs.below hbr hBs.lt
  have hLr:=(h.adv hbn).adv hbr
  by_cases hlt:k < ls.length
  ·
   obtain ⟨bb,off,hAe,hbb,hc⟩:=hLr.at_ hlt
   have c0:=hc 0 _ rfl
   have c1:=hc 1 _ rfl
   have c2:=hc 2 _ rfl
   simp only [Nat.add_zero] at c0
   have hki:(k:Int) < (ls.length:Int):=by omega
   have hmem:=List.getElem_mem hlt
   obtain ⟨kd,hkd,hk1,hk2⟩:=HKD.out _ hmem
   have HF1:=Lib.hid (HFM.out _ hmem)
   have hal:=HLN.out _ hmem
   have hsb:=HBD.out (kd:Int) k (by omega)
   have HSET:=Lib.hid (sumsV_set ls k hlt kd hkd (by omega))
   have HAT:=Lib.hid (sumsV_at (ls.take k) kd (by omega))
   have HPV:Hid (k ≠ 0→∃ q:LineT,(∀ W,RowKit.Below wr.heap.size wr W→Calls Tryz.prog 47 #[.agg #[.int .i64 q.kind,.string q.code,.int .i64 q.amount],.agg #[.int .i64 ls[k].kind,.string ls[k].code,.int .i64 ls[k].amount]] W fun e w'=>e = .returned (.int .i64 (cmpLn q ls[k]))∧RowKit.Below W.heap.size W w')∧cmpLn q ls[k] < 0∧(∀ j v,(encL q)[j]? = some v→wr.cell? ⟨bb,off+(k - 1) * 3+j,none⟩ = some v)):=fun h0=>by
    have hp:k - 1 < ls.length:=by omega
    have hs:=HSO.out (k - 1) (by omega)
    simp only [Nat.sub_add_cancel (show 1≤k by omega)] at hs
    refine ⟨ls[k - 1],fun W _=>order_below _ _ hs W,cmpLn_neg hs,fun j v hj=>?_⟩
    obtain ⟨b',o',hA',_,hc'⟩:=hLr.at_ hp
    rw [hAe] at hA'
    injection hA' with hA'
    injection hA' with e1 e2
    subst e1 e2
    exact hc' j v hj
   have z6:wr.cell? ⟨w.heap.size,6,none⟩ = some (.slice (some ⟨bb,off,none⟩) ls.length cap):=by rw [← hAe]; exact hBr.cell 6
   have HKE:=Lib.hid hkd
   clear hc hmem hLr hkd
   rw [hAe]
   generalize ls[k] = x at *
   have hBo:=Blk.new wr 30 #[.int .i64 x.kind,.string x.code,.int .i64 x.amount]
   have hbo:=below_new wr (.cells #[.int .i64 x.kind,.string x.code,.int .i64 x.amount] 30)
   go_upto_region 7 with fail
   generalize wr.alloc (Obj.cells _ _) = W4 at hBo hbo ⊢
   have hlo:=hBo.lt
   have hlb:w.heap.size < W4.heap.size:=by have:=hBr.lt; have:=hbo.size; omega
   have hlbb:bb < W4.heap.size:=by have:=hbo.size; omega
   have xx0:=hBo.cell 0
   have xx1:=hBo.cell 1
   have xx2:=hBo.cell 2
   simp only [nqg,nqh,nqi] at xx0 xx1 xx2
   have yy6:=(hbo.cell (p:=⟨w.heap.size,6,none⟩) (by exact hBr.lt)).trans z6
   have e0:=Bw.cell (w:=W4) (a:=⟨wr.heap.size,0,none⟩) (by exact hlo) xx0
   have e1:=Bw.cell (w:=W4) (a:=⟨wr.heap.size,1,none⟩) (by exact hlo) xx1
   have e2:=Bw.cell (w:=W4) (a:=⟨wr.heap.size,2,none⟩) (by exact hlo) xx2
   have e6:=Bw.cell (w:=W4) (a:=⟨w.heap.size,6,none⟩) (by exact hlb) yy6
   clear c0 c1 c2 z6 yy6 xx0 xx1 xx2
   go_cut [38] from 21 to 38 (fun v wx=>v = .bool false∧RowKit.Below W4.heap.size W4 wx)
   case first =>
    clear hBo hK hBr hBs hbr
    by_cases h0:k = 0
    ·
     subst h0
     have hcast:((0:Nat) : Int) = 0:=rfl
     simp only [hcast]
     refine wp_region_below (by kernel_rfl) (by kernel_rfl) ?_
     repeat (go_big_quiet_step (exact Bw.call _ (HF1.out _)))
     refine wpQuiet_nil ?_
     intro W6 hw'
     obtain ⟨⟨W6,hW6⟩,hw''⟩:=hw'
     subst hw''
     go_wp2_with fail
     go_meet
     exact ⟨rfl,hW6⟩
    ·
     obtain ⟨q,hq1,hq2,hq3⟩:=HPV.out h0
     have hk0:(0:Int) < (k:Int):=by omega
     have p0:=(hbo.cell (p:=⟨bb,off+(k - 1) * 3+0,none⟩) (by exact hbb)).trans (hq3 0 _ rfl)
     have p1:=(hbo.cell (p:=⟨bb,off+(k - 1) * 3+1,none⟩) (by exact hbb)).trans (hq3 1 _ rfl)
     have p2:=(hbo.cell (p:=⟨bb,off+(k - 1) * 3+2,none⟩) (by exact hbb)).trans (hq3 2 _ rfl)
     simp only [Nat.add_zero] at p0
     have HO:=Lib.hid (fun W hb=>hq1 W ((hbo.trans (Below.mono hb hbo.size))))
     clear hq3 hq1
     obtain ⟨m,rfl⟩ : ∃ m,k = m+1:=⟨k - 1,by omega⟩
     simp only [Nat.add_sub_cancel] at p0 p1 p2
     have r0:=Bw.cell (w:=W4) (a:=⟨bb,off+m * 3,none⟩) (by exact hlbb) p0
     have r1:=Bw.cell (w:=W4) (a:=⟨bb,off+m * 3+1,none⟩) (by exact hlbb) p1
     have r2:=Bw.cell (w:=W4) (a:=⟨bb,off+m * 3+2,none⟩) (by exact hlbb) p2
     clear p0 p1 p2
     have hge:¬ 0≤cmpLn q x:=by omega
     generalize cmpLn q x = cq at *
     have hcast:((m+1:Nat) : Int) = (m:Int)+1:=by omega
     simp only [hcast]
     have hp:decide ((0:Int) < (m:Int)+1) = true:=by rw [decide_eq_true_eq]; omega
     have hmi:(m:Int) < (ls.length:Int):=by omega
     refine wp_region_below (by kernel_rfl) (by kernel_rfl) ?_
     repeat (go_big_quiet_step (first | exact Bw.call _ (HF1.out _) | exact Bw.call _ (HO.out _ (Bw.h _))))
     refine wpQuiet_nil ?_
     intro W6 hw'
     obtain ⟨⟨W6,hW6⟩,hw''⟩:=hw'
     subst hw''
     go_wp2_with fail
     go_meet
     exact ⟨rfl,hW6⟩
   case rest =>
    rename World=>w6
    obtain ⟨rfl,hb6⟩:=hcut
    have hBo6:=hBo.adv hb6
    rw [HKE.out] at hBo6
    have hK6:=(hK.adv hbo).adv hb6
    have hb16:RowKit.Below W1.heap.size W1 w6:=bel_adv (bel_adv hbr hbo) hb6
    have hlk:=hK6.lt
    have hlo6:=hBo6.lt
    have xx0:w6.cell? ⟨wr.heap.size,0,none⟩ = some (.int .i64 (kd:Int)):=hBo6.cell 0
    have xx2:w6.cell? ⟨wr.heap.size,2,none⟩ = some (.int .i64 x.amount):=hBo6.cell 2
    have kk:=(hK6.cell kd).trans HAT.out
    have hkd1:(kd:Int) < 11:=by omega
    clear hBo hK hbr hbo hb6 hBr e0 e1 e2 e6 HPV HF1 hBo6
    go_upto_region 9 with fail
    refine wp_region_fin (aE:=?aE9) [0,1,2,3,4,5,6,7] 8 (by kernel_rfl) (by kernel_rfl) rfl (by kernel_rfl) (by rfl) (by kernel_rfl) (by kernel_rfl) rfl rfl rfl ?H9 ?M9
    case H9 =>
     intro F hF inst
     simp only [M3.opsAt,List.getElem?_toArray,List.getElem?_cons_zero,List.getElem?_cons_succ]
     have e0:=BwC.cellB (F:=F) (a:=⟨wr.heap.size,0,none⟩) (by exact hlo6) xx0
     have e2:=BwC.cellB (F:=F) (a:=⟨wr.heap.size,2,none⟩) (by exact hlo6) xx2
     have ek:=BwC.cellB (F:=F) (a:=⟨W1.heap.size,kd,none⟩) (by exact hlk) kk
     repeat (first | go_big_quiet_step (first | fail) | quiet_step (first | fail))
     refine wpQuiet_nil ?_
     rfl
    case M9 =>
     intro w7 hb7
     have hK7:=hK6.adv hb7
     have hb17:=bel_adv hb16 hb7
     have kk7:=(hK7.cell kd).trans HAT.out
     have fk7:=hK7.frozen kd
     refine ⟨w7.setCell ⟨W1.heap.size,kd,none⟩ (.int .i64 (sumK (kd:Int) (ls.take k)+x.amount)),by go_simp,?_⟩
     have hK8:=hK7.set_ kd (.int .i64 (sumK (kd:Int) (ls.take k)+x.amount))
     rw [HSET.out] at hK8
     have hb18:=bel_set hb17 (Nat.le_refl W1.heap.size) kd (.int .i64 (sumK (kd:Int) (ls.take k)+x.amount))
     generalize w7.setCell ⟨W1.heap.size,kd,none⟩ (.int .i64 (sumK (kd:Int) (ls.take k)+x.amount)) = w8 at hK8 hb18 ⊢
     clear hK7 hb17 kk7 fk7 hK6 hb16 xx0 xx2 kk hlk hlo6
     go_wp2
     go_roundw
     case rel =>
      have hfin:∃ k':Nat,k'≤ls.length∧Value.int .i64 ((k:Int)+1) = .int .i64 k'∧Blk w8 W1.heap.size 95 (sumsV (ls.take k'))∧RowKit.Below W1.heap.size W1 w8:=⟨k+1,by omega,by go_num,hK8,hb18⟩
      first | exact hfin | ((repeat apply Exists.intro); exact ⟨hfin,rfl⟩)
     case measure=>simp [intOf]; omega
  ·
   obtain rfl:k = ls.length:=by omega
   rw [List.take_length] at hK
   have HBE:Hid (∀ i:Int,-25600000000000≤sumK i ls∧sumK i ls≤25600000000000):=fun i=>by
    have:=HBD.out i ls.length (by omega)
    rwa [List.take_length] at this
   have q1:=(hK.cell 1).trans (sumsV_at ls 1 (by omega))
   have q2:=(hK.cell 2).trans (sumsV_at ls 2 (by omega))
   have q3:=(hK.cell 3).trans (sumsV_at ls 3 (by omega))
   have q4:=(hK.cell 4).trans (sumsV_at ls 4 (by omega))
   have q6:=(hK.cell 6).trans (sumsV_at ls 6 (by omega))
   have q7:=(hK.cell 7).trans (sumsV_at ls 7 (by omega))
   have q8:=(hK.cell 8).trans (sumsV_at ls 8 (by omega))
   have q9:=(hK.cell 9).trans (sumsV_at ls 9 (by omega))
   have q10:=(hK.cell 10).trans (sumsV_at ls 10 (by omega))
   have u1:=HBE.out 1
   have u2:=HBE.out 2
   have u3:=HBE.out 3
   have u4:=HBE.out 4
   have u6:=HBE.out 6
   have u7:=HBE.out 7
   have u8:=HBE.out 8
   have u9:=HBE.out 9
   have u10:=HBE.out 10
   obtain ⟨_,_,_,h1,h2,h3,h4,h5⟩:=HB.out
   simp only [Int.cast_ofNat_Int] at q1 q2 q3 q4 q6 q7 q8 q9 q10
   generalize sumK 1 ls = S1 at *
   generalize sumK 2 ls = S2 at *
   generalize sumK 3 ls = S3 at *
   generalize sumK 4 ls = S4 at *
   generalize sumK 6 ls = S6 at *
   generalize sumK 7 ls = S7 at *
   generalize sumK 8 ls = S8 at *
   generalize sumK 9 ls = S9 at *
   generalize sumK 10 ls = S10 at *
   have g1:(b.c == S1) = true:=by simp [h2]
   have g2:(b.g == S1+S2) = true:=by simp; omega
   have g3:(legal == S1 - S4 - S6) = true:=by simp; omega
   have g4:S1 - S4 - S6 - S3 - S7 - S8 = S9 - S10:=by omega
   have HG4:=Lib.hid g4
   clear g4
   have z0:=hBr.cell 0
   have z1:=hBr.cell 1
   have z2:=hBr.cell 2
   have z3:=hBr.cell 3
   have z4:=hBr.cell 4
   have z5:=hBr.cell 5
   have z6:=hBr.cell 6
   simp only [nqg,nqh,nqi] at z0 z1 z2 z3 z4 z5 z6
   have hfin:=bel_adv hbn (hbr:RowKit.Below W1.heap.size W1 wr)
   clear hK hBr hbr h2 h3 h4 h5
   rcases h1 with h9 | h10
   ·
    have g9:(S9 != 0) = false:=by simp [h9]
    go_wp2
    go_ret
    exact ⟨congrArg (fun b=>Ending.returned (.bool b)) (show (S1 - S4 - S6 - S3 - S7 - S8 == -S10) = true by have:=HG4.out; simp; omega),hfin⟩
   ·
    have g10:(S10 != 0) = false:=by simp [h10]
    by_cases h9:S9 = 0
    ·
     have g9:(S9 != 0) = false:=by simp [h9]
     go_wp2
     go_ret
     exact ⟨congrArg (fun b=>Ending.returned (.bool b)) (show (S1 - S4 - S6 - S3 - S7 - S8 == 0) = true by have:=HG4.out; simp; omega),hfin⟩
    ·
     have g9:(S9 != 0) = true:=by simp [h9]
     go_wp2
     go_ret
     exact ⟨congrArg (fun b=>Ending.returned (.bool b)) (show (S1 - S4 - S6 - S3 - S7 - S8 == S9) = true by have:=HG4.out; simp; omega),hfin⟩
end Go.Proofs.YtlhkojcmcmkmaaaGreat
namespace Go.Proofs.YtlhkojcmcmkmaaaGreat
open Go.RowKit
theorem sumK_linesK (k j : Int) (l:List Elem) : sumK k (linesK j l) = if j = k then sumE l else 0:=by
 rw [← sumE_nz,linesK]
 induction l.filter nz with
 | nil=>simp [sumK,sumE]
 | cons a l ih=>simp only [List.map_cons,sumK,sumE,ih]; split <;> omega
theorem condS_all (l:List Elem) : condS (fun _=>true) l = sumE l:=by
 induction l with
 | nil=>rfl
 | cons a l ih=>simp [condS,sumE,ih]
theorem gross_sum (ws:List WageT) (l:List Elem) : (sumB ws l).g = sumE l:=by rw [sumB_eq]; exact condS_all l
theorem sumE_split (p:Elem→Bool) (l:List Elem) : sumE (l.filter p)+sumE (l.filter fun x=>!p x) = sumE l:=by
 induction l with
 | nil=>rfl
 | cons a l ih =>
  cases h:p a <;> simp [h,sumE] <;> omega
section
variable {I:NetIn}
theorem fm_name {k:Int} {e:List Elem} (h:ElOk e) (hk:k = 1 ∨ k = 2) : ∀ x ∈ linesK k e,FmOk x:=by
 intro x hx
 obtain ⟨_,y,hy,hn,rfl⟩:=linesK_kind hx
 exact ⟨hn,h.lo y hy,h.hi y hy,.inr (.inr (.inl ⟨hk,h.name y hy⟩))⟩
theorem fm_pos {k:Int} {e:List Elem} (h:ElOk e) (hp : ∀ x ∈ e,0≤x.amount) (hk:k = 3 ∨ k = 4 ∨ k = 5 ∨ k = 7 ∨ k = 8) : ∀ x ∈ linesK k e,FmOk x:=by
 intro x hx
 obtain ⟨_,y,hy,hn,rfl⟩:=linesK_kind hx
 have:=hp y hy
 exact ⟨hn,h.lo y hy,h.hi y hy,.inr (.inr (.inr ⟨hk,h.name y hy,by show 0 < y.amount; have:y.amount ≠ 0:=hn; omega⟩))⟩
theorem fm_bare {k n : Int} (h0 : -100000000000≤n) (h1:n≤100000000000) (hk:k = 6 ∨ ((k = 9 ∨ k = 10)∧0≤n)) : ∀ x ∈ linesK k [⟨⟨#[]⟩,n⟩],FmOk x:=by
 intro x hx
 obtain ⟨_,y,hy,hn,rfl⟩:=linesK_kind hx
 rw [List.mem_singleton] at hy
 subst hy
 refine ⟨hn,h0,h1,?_⟩
 rcases hk with h | ⟨h,hp⟩
 ·
  exact .inl ⟨h,rfl⟩
 ·
  exact .inr (.inl ⟨h,rfl,by show 0 < n; have:n ≠ 0:=hn; omega⟩)
theorem InOk.slBal (h:InOk I) (he:I.err = 0) : SlBal I.b I.legal I.lines:=by
 have P:=h.parts he
 have S:=h.slip he
 have hsum:∀ k:Int,sumK k I.lines = (if (1:Int) = k then sumE I.earn else 0)+(if (2:Int) = k then sumE I.bene else 0)+(if (3:Int) = k then sumE I.before else 0)+(if (4:Int) = k then sumE (I.ownTo I.r.schemes) else 0)+(if (5:Int) = k then sumE (I.emplTo I.r.schemes) else 0)+(if (6:Int) = k then I.tax else 0)+(if (7:Int) = k then sumE I.attached else 0)+(if (8:Int) = k then sumE I.after else 0)+(if (9:Int) = k then max I.left5 0 else 0)+(if (10:Int) = k then max (-I.left5) 0 else 0):=fun k=>by
  simp only [NetIn.lines,sumK_append,sumK_linesK,sumE,Int.add_zero]
 have hc:I.b.c = sumE I.earn:=P.cash
 have hg:I.b.g = sumE I.earn+sumE I.bene:=by
  have h1:I.b.g = sumE (sumsP I.e):=gross_sum _ _
  have h2:sumE I.earn+sumE I.bene = sumE I.merged:=sumE_split _ _
  have h3:sumE I.merged = sumE (sumsP I.e):=sumE_nz _
  omega
 have hlv:sumE (I.ownTo I.r.schemes) = I.levies:=sumE_own I _
 have hlg:I.legal = I.b.c - I.levies - I.tax:=rfl
 have hl5:I.left5 = I.b.c - sumE I.before - I.levies - I.tax - sumE I.attached - sumE I.after:=rfl
 have c:=P.cbd
 have l5 : -100000000000≤I.left5∧I.left5≤100000000000:=by
  have:=P.bsum; have:=P.levies; have:=P.tax; have:=P.asum; have:=P.fsum
  omega
 refine ⟨S.len,?_,S.sorted,?_,?_,?_,?_,?_⟩
 ·
  intro x hx
  simp only [NetIn.lines,List.mem_append] at hx
  rcases hx with ((((((((hx | hx) | hx) | hx) | hx) | hx) | hx) | hx) | hx) | hx
  ·
   exact fm_name (P.merged.filter _) (.inl rfl) x hx
  ·
   exact fm_name (P.merged.filter _) (.inr rfl) x hx
  ·
   exact fm_pos P.before P.bpos (by omega) x hx
  ·
   exact fm_pos P.own P.opos (by omega) x hx
  ·
   exact fm_pos P.empl P.epos (by omega) x hx
  ·
   exact fm_bare (by have:=P.tax; omega) (by have:=P.tax; omega) (.inl rfl) x hx
  ·
   exact fm_pos P.att P.apos (by omega) x hx
  ·
   exact fm_pos P.after P.fpos (by omega) x hx
  ·
   exact fm_bare (by omega) (by omega) (.inr ⟨.inl rfl,by omega⟩) x hx
  ·
   exact fm_bare (by omega) (by omega) (.inr ⟨.inr rfl,by omega⟩) x hx
 ·
  have h1:sumK 9 I.lines = max I.left5 0:=by rw [hsum]; simp
  have h2:sumK 10 I.lines = max (-I.left5) 0:=by rw [hsum]; simp
  omega
 ·
  rw [hsum]; simp [hc]
 ·
  have:sumK 2 I.lines = sumE I.bene:=by rw [hsum]; simp
  omega
 ·
  have h1:sumK 4 I.lines = sumE (I.ownTo I.r.schemes):=by rw [hsum]; simp
  have h2:sumK 6 I.lines = I.tax:=by rw [hsum]; simp
  omega
 ·
  have h3:sumK 3 I.lines = sumE I.before:=by rw [hsum]; simp
  have h7:sumK 7 I.lines = sumE I.attached:=by rw [hsum]; simp
  have h8:sumK 8 I.lines = sumE I.after:=by rw [hsum]; simp
  have h9:sumK 9 I.lines = max I.left5 0:=by rw [hsum]; simp
  have h10:sumK 10 I.lines = max (-I.left5) 0:=by rw [hsum]; simp
  omega
end
end Go.Proofs.YtlhkojcmcmkmaaaGreat
namespace Go.Proofs.YtlhkojcmcmkmaaaGreat
open Go.RowKit Go.Sort Go.Shelf
def sBase : ByteArray:=⟨#[98,97,115,101]⟩
def sA : ByteArray:=⟨#[97]⟩
def exWage : WageT:=⟨sBase,1,true,true,true,4000⟩
def exSch : SchT:=⟨sA,100000,0,0,1000000,1,0,true⟩
def exTar : TarT:=⟨2,[⟨0,200000⟩],0,0,1,0,[]⟩
def exR (Aw As Ab : Option Addr) : RulesM:=⟨Aw,1,[exWage],As,1,[exSch],⟨exTar,Ab,1,none,0⟩,12,⟨0,0,0,0,0⟩,0⟩
def exP : PersonM:=⟨0,none,0,[],none,0,[],none,0,[]⟩
def exY : YearM:=⟨0,0,0,none,0,[],none,0,[]⟩
def exE : List Elem:=[⟨sBase,3000⟩]
def exI : NetIn:=⟨⟨[exWage],[exSch],exTar,12,⟨0,0,0,0,0⟩,0⟩,⟨0,[],[],[]⟩,⟨0,0,0,[],[]⟩,[],true,exE⟩
theorem exI_err : exI.err = 0:=by decide +kernel
theorem exI_lines : exI.lines = [⟨1,sBase,3000⟩,⟨4,sA,300⟩,⟨6,⟨#[]⟩,540⟩,⟨9,⟨#[]⟩,2160⟩]:=by decide +kernel
theorem exI_per : exI.next.periods = 1:=by decide +kernel
theorem exSch_ok : SchOk exSch:=⟨by decide +kernel,by decide,by decide,by decide,by decide,by decide,by decide,by decide,by decide,by decide,by decide,by decide,by decide⟩
theorem exBr_ok : BrOk exTar.brs:=by
 have h0:∀ i,i < exTar.brs.length→i = 0:=fun i hi=>by
  have:i < 1:=hi
  omega
 refine ⟨by decide,by decide,rfl,fun i hi=>?_,fun i hi=>?_,fun i hi=>?_,fun i hi=>?_⟩
 ·
  have:i+1 < 1:=hi
  omega
 ·
  obtain rfl:=h0 i hi; decide
 ·
  obtain rfl:=h0 i hi; decide
 ·
  obtain rfl:=h0 i hi; decide
theorem exTar_ok : TarOk exTar:=⟨by decide,by decide,exBr_ok,by decide,by decide,by decide,by decide,by decide,by decide,by decide,by decide,fun h=>absurd h (by decide),fun _=>rfl⟩
theorem exI_ok : InOk exI:=by
 refine ⟨⟨by decide +kernel,by decide,fun s hs=>?_,List.pairwise_singleton _ _,exTar_ok,by decide,by decide,⟨by decide,by decide,by decide,by decide,by decide,by decide,by decide,by decide,by decide,by decide⟩,by decide,by decide⟩,
  ⟨by decide,by decide,by decide +kernel,⟨by decide,fun o ho=>(by cases ho),List.Pairwise.nil⟩,by decide,fun e he=>(by cases he),fun e he=>(by cases he),fun e he=>(by cases he)⟩,
  ⟨by decide,by decide,rfl,fun x hx=>(by cases hx),by decide,by decide,by decide,by decide,by decide +kernel⟩,⟨by decide +kernel,by decide,fun x hx=>(by cases hx)⟩,fun e he=>(by cases he),fun x hx=>?_⟩
 ·
  have:s = exSch:=by simpa [exI] using hs
  subst this
  exact exSch_ok
 ·
  have:x = ⟨sBase,3000⟩:=by simpa [exI,exE] using hx
  subst this
  decide
theorem sizeRules32 : (Tryz.prog.info? 45).map (·.size) = some 16:=by kernel_rfl
set_option maxRecDepth 100000 in
set_option maxHeartbeats 4000000 in
theorem example_any (w:World) : Calls Tryz.prog 48 #[] w fun e w'=>∃ Aw As Ab,e = .returned (exR Aw As Ab).val∧(exR Aw As Ab).In w'∧Below w.heap.size w w':=by
 have hB0:=Blk.new w 45 #[.slice none 0 0,.slice none 0 0,.int .i64 0,.slice none 0 0,.int .i64 0,.int .i64 0,.int .i64 0,.int .i64 0,.slice none 0 0,.int .i64 0,.int .i64 0,.int .i64 0,.int .i64 0,.int .i64 0,.int .i64 0,.int .i64 0]
 have hb0:=below_new w (.cells #[.slice none 0 0,.slice none 0 0,.int .i64 0,.slice none 0 0,.int .i64 0,.int .i64 0,.int .i64 0,.int .i64 0,.slice none 0 0,.int .i64 0,.int .i64 0,.int .i64 0,.int .i64 0,.int .i64 0,.int .i64 0,.int .i64 0] 45)
 go_enter Tryz.func48,Tryz.ntmps48
 go_upto_region 1 with fail
 have hlt0:=hB0.lt
 have hge:w.heap.size < (w.alloc (Obj.cells #[.slice none 0 0,.slice none 0 0,.int .i64 0,.slice none 0 0,.int .i64 0,.int .i64 0,.int .i64 0,.int .i64 0,.slice none 0 0,.int .i64 0,.int .i64 0,.int .i64 0,.int .i64 0,.int .i64 0,.int .i64 0,.int .i64 0] 45)).heap.size:=hlt0
 generalize w.alloc (Obj.cells _ _) = W1 at hB0 hb0 hge hlt0 ⊢
 have hS1:=SliceOf.new encW_len W1 [exWage] #[.string sBase,.int .i64 1,.bool true,.bool true,.bool true,.int .i64 4000] 77 rfl
 have hS2:=SliceOf.new encSch_len (W1.alloc (.cells #[.string sBase,.int .i64 1,.bool true,.bool true,.bool true,.int .i64 4000] 77)) [exSch] #[.string sA,.int .i64 100000,.int .i64 0,.int .i64 0,.int .i64 1000000,.int .i64 1,.int .i64 0,.bool true] 123 rfl
 have hS3:=SliceOf.new encBr_len ((W1.alloc (.cells #[.string sBase,.int .i64 1,.bool true,.bool true,.bool true,.int .i64 4000] 77)).alloc (.cells #[.string sA,.int .i64 100000,.int .i64 0,.int .i64 0,.int .i64 1000000,.int .i64 1,.int .i64 0,.bool true] 123)) [⟨0,200000⟩] #[.int .i64 0,.int .i64 200000] 127 rfl
 rw [← World.size_alloc W1 (.cells #[.string sBase,.int .i64 1,.bool true,.bool true,.bool true,.int .i64 4000] 77)] at hS1
 rw [← World.size_alloc (W1.alloc (.cells #[.string sBase,.int .i64 1,.bool true,.bool true,.bool true,.int .i64 4000] 77)) (.cells #[.string sA,.int .i64 100000,.int .i64 0,.int .i64 0,.int .i64 1000000,.int .i64 1,.int .i64 0,.bool true] 123)] at hS2
 rw [← World.size_alloc ((W1.alloc (.cells #[.string sBase,.int .i64 1,.bool true,.bool true,.bool true,.int .i64 4000] 77)).alloc (.cells #[.string sA,.int .i64 100000,.int .i64 0,.int .i64 0,.int .i64 1000000,.int .i64 1,.int .i64 0,.bool true] 123)) (.cells #[.int .i64 0,.int .i64 200000] 127)] at hS3
 have hS1':=(hS1.adv (below_new _ (.cells #[.string sA,.int .i64 100000,.int .i64 0,.int .i64 0,.int .i64 1000000,.int .i64 1,.int .i64 0,.bool true] 123))).adv (below_new _ (.cells #[.int .i64 0,.int .i64 200000] 127))
 have hS2':=hS2.adv (below_new _ (.cells #[.int .i64 0,.int .i64 200000] 127))
 have hB4:=((hB0.alloc (.cells #[.string sBase,.int .i64 1,.bool true,.bool true,.bool true,.int .i64 4000] 77)).alloc (.cells #[.string sA,.int .i64 100000,.int .i64 0,.int .i64 0,.int .i64 1000000,.int .i64 1,.int .i64 0,.bool true] 123)).alloc (.cells #[.int .i64 0,.int .i64 200000] 127)
 have hb4:=bel_alloc (bel_alloc (bel_alloc hb0 (.cells #[.string sBase,.int .i64 1,.bool true,.bool true,.bool true,.int .i64 4000] 77)) (.cells #[.string sA,.int .i64 100000,.int .i64 0,.int .i64 0,.int .i64 1000000,.int .i64 1,.int .i64 0,.bool true] 123)) (.cells #[.int .i64 0,.int .i64 200000] 127)
 have hx:W1.heap.size≤(((W1.alloc (.cells #[.string sBase,.int .i64 1,.bool true,.bool true,.bool true,.int .i64 4000] 77)).alloc (.cells #[.string sA,.int .i64 100000,.int .i64 0,.int .i64 0,.int .i64 1000000,.int .i64 1,.int .i64 0,.bool true] 123)).alloc (.cells #[.int .i64 0,.int .i64 200000] 127)).heap.size:=by simp only [World.size_alloc]; omega
 clear hS1 hS2 hB0 hb0
 simp only [World.size_alloc] at hS2' hS3
 go_wp2_with (refine wpList_store_blk rfl _ _ _ rfl rfl w.heap.size (cs:=#[.slice none 0 0,.slice none 0 0,.int .i64 0,.slice none 0 0,.int .i64 0,.int .i64 0,.int .i64 0,.int .i64 0,.slice none 0 0,.int .i64 0,.int .i64 0,.int .i64 0,.int .i64 0,.int .i64 0,.int .i64 0,.int .i64 0]) (vs:=#[.slice (some ⟨W1.heap.size,0,none⟩) 1 1,.slice (some ⟨W1.heap.size+1,0,none⟩) 1 1,.int .i64 2,.slice (some ⟨W1.heap.size+1+1,0,none⟩) 1 1,.int .i64 0,.int .i64 0,.int .i64 1,.int .i64 0,.slice none 0 0,.int .i64 12,.int .i64 0,.int .i64 0,.int .i64 0,.int .i64 0,.int .i64 0,.int .i64 0]) rfl rfl hB4 rfl sizeRules32 rfl ?_; intro w5 hB5 hg5)
 have hb5:Below w.heap.size w w5:=bel_only hb4 hg5 (fun q e=>by injection e; omega)
 have hT1:=hS1'.advG hg5 (fun a ha=>by injection ha with ha; subst ha; show W1.heap.size ≠ w.heap.size; omega)
 have hT2:=SliceOf.advG (hS2'.more (Nat.le_of_eq (by simp only [World.size_alloc]))) hg5 (fun a ha=>by injection ha with ha; subst ha; show W1.heap.size+1 ≠ w.heap.size; omega)
 have hT3:=SliceOf.advG (hS3.more (Nat.le_of_eq (by simp only [World.size_alloc]))) hg5 (fun a ha=>by injection ha with ha; subst ha; show W1.heap.size+1+1 ≠ w.heap.size; omega)
 refine bodyPost_ret (results_blk Tryz.results48 rfl hB5 Tryz.underlying45 rfl (by kernel_rfl)) rfl ?_
 exact ⟨some ⟨W1.heap.size,0,none⟩,some ⟨W1.heap.size+1,0,none⟩,some ⟨W1.heap.size+1+1,0,none⟩,rfl,⟨hT1,hT2,⟨hT3,SliceOf.nil_⟩⟩,hb5⟩
set_option maxRecDepth 100000 in
set_option maxHeartbeats 8000000 in
theorem awake_any (w:World) : Calls Tryz.prog 17 #[] w fun e w'=>e = .returned (.bool true)∧Below w.heap.size w w':=by
 go_enter Tryz.func17,Tryz.ntmps17
 go_wp2_with fail
 refine (example_any _).mono ?_
 rintro e w1 ⟨Aw,As,Ab,rfl,hR1,hb1⟩
 have hE:=SliceOf.new encE_len w1 exE #[.string sBase,.int .i64 3000] 69 rfl
 rw [← World.size_alloc w1 (.cells #[.string sBase,.int .i64 3000] 69)] at hE
 have hbn:=below_new w1 (.cells #[.string sBase,.int .i64 3000] 69)
 have hC:=compute_ok (exR Aw As Ab) exP exY none (some ⟨w1.heap.size,0,none⟩) 0 1 [] exE true (w1.alloc (.cells #[.string sBase,.int .i64 3000] 69)) (hR1.adv hbn) ⟨SliceOf.nil_,SliceOf.nil_,SliceOf.nil_,fun e he=>by cases he⟩ ⟨SliceOf.nil_,SliceOf.nil_⟩ SliceOf.nil_ hE (by decide) exI_ok
 have hb2:=bel_adv hb1 hbn
 go_wp2_with fail
 refine hC.mono ?_
 have e1:mkI (exR Aw As Ab) exP exY [] true exE = exI:=rfl
 rw [e1]
 clear hC e1 hE hR1
 rintro e w3 (⟨_,A,c,Ai,ci,At,ct,rfl,hSL,_,_,hb3⟩ | ⟨herr,_,_⟩)
 rotate_left
 ·
  exact absurd exI_err herr
 have hIL:=exI_ok.slBal exI_err
 rw [exI_lines] at hSL hIL ⊢
 rw [exI_per]
 simp only [List.length_cons,List.length_nil,Nat.zero_add,Nat.reduceAdd]
 generalize exI.b = b at *
 generalize exI.legal = lg at *
 generalize exI.next.income = yi
 generalize exI.next.withheld = yw
 generalize exI.next.insured.length = ni
 generalize exI.next.taken.length = nt
 obtain ⟨bb,off,rfl,hbb,hc1⟩:=hSL.at_ (i:=1) (by decide)
 obtain ⟨b',o',hA',_,hc2⟩:=hSL.at_ (i:=2) (by decide)
 injection hA' with hA'
 injection hA' with q1 q2
 subst q1 q2
 obtain ⟨b',o',hA',_,hc3⟩:=hSL.at_ (i:=3) (by decide)
 injection hA' with hA'
 injection hA' with q1 q2
 subst q1 q2
 have c5:w3.cell? ⟨bb,off+1 * 3+2,none⟩ = some (.int .i64 300):=hc1 2 _ rfl
 have c8:w3.cell? ⟨bb,off+2 * 3+2,none⟩ = some (.int .i64 540):=hc2 2 _ rfl
 have c9:w3.cell? ⟨bb,off+3 * 3+0,none⟩ = some (.int .i64 9):=hc3 0 _ rfl
 have c10:w3.cell? ⟨bb,off+3 * 3+1,none⟩ = some (.string ⟨#[]⟩):=hc3 1 _ rfl
 have c11:w3.cell? ⟨bb,off+3 * 3+2,none⟩ = some (.int .i64 2160):=hc3 2 _ rfl
 clear hc1 hc2 hc3
 have hbw:=bel_alloc (below_new w3 (.cells #[.int .i64 b.g,.int .i64 b.c,.int .i64 b.t,.int .i64 b.i,.int .i64 b.a,.int .i64 lg,.slice (some ⟨bb,off,none⟩) 4 c] 27)) (.cells #[.int .i64 1,.int .i64 yi,.int .i64 yw,.slice Ai ni ci,.slice At nt ct] 53)
 have hBs:=(Blk.new w3 27 #[.int .i64 b.g,.int .i64 b.c,.int .i64 b.t,.int .i64 b.i,.int .i64 b.a,.int .i64 lg,.slice (some ⟨bb,off,none⟩) 4 c]).alloc (.cells #[.int .i64 1,.int .i64 yi,.int .i64 yw,.slice Ai ni ci,.slice At nt ct] 53)
 have hBy:=Blk.new (w3.alloc (.cells #[.int .i64 b.g,.int .i64 b.c,.int .i64 b.t,.int .i64 b.i,.int .i64 b.a,.int .i64 lg,.slice (some ⟨bb,off,none⟩) 4 c] 27)) 53 #[.int .i64 1,.int .i64 yi,.int .i64 yw,.slice Ai ni ci,.slice At nt ct]
 rw [World.size_alloc] at hBy
 have hb4:=bel_adv (bel_adv hb2 hb3) hbw
 have d5:=(hbw.cell (p:=⟨bb,off+1 * 3+2,none⟩) (by exact hbb)).trans c5
 have d8:=(hbw.cell (p:=⟨bb,off+2 * 3+2,none⟩) (by exact hbb)).trans c8
 have d9:=(hbw.cell (p:=⟨bb,off+3 * 3+0,none⟩) (by exact hbb)).trans c9
 have d10:=(hbw.cell (p:=⟨bb,off+3 * 3+1,none⟩) (by exact hbb)).trans c10
 have d11:=(hbw.cell (p:=⟨bb,off+3 * 3+2,none⟩) (by exact hbb)).trans c11
 have HBAL:=Lib.hid (balanced_yes b lg (some ⟨bb,off,none⟩) c _ _ (hSL.adv hbw) hIL)
 simp only [List.length_cons,List.length_nil,Nat.zero_add,Nat.reduceAdd] at HBAL
 simp only [Nat.reduceMul,Nat.add_assoc,Nat.reduceAdd] at d5 d8 d9 d10 d11
 clear c5 c8 c9 c10 c11 hSL hIL hb2 hb3
 go_upto_region 2 with fail
 clear hbw
 generalize (w3.alloc (.cells #[.int .i64 b.g,.int .i64 b.c,.int .i64 b.t,.int .i64 b.i,.int .i64 b.a,.int .i64 lg,.slice (some ⟨bb,off,none⟩) 4 c] 27)).alloc (.cells #[.int .i64 1,.int .i64 yi,.int .i64 yw,.slice Ai ni ci,.slice At nt ct] 53) = W4 at hBs hBy hb4 d5 d8 d9 d10 d11 HBAL ⊢
 have z0:=hBs.cell 0
 have z1:=hBs.cell 1
 have z2:=hBs.cell 2
 have z3:=hBs.cell 3
 have z4:=hBs.cell 4
 have z5:=hBs.cell 5
 have z6:=hBs.cell 6
 simp only [nqg,nqh,nqi] at z0 z1 z2 z3 z4 z5 z6
 have y0:=hBy.cell 0
 have y1:=hBy.cell 1
 have y2:=hBy.cell 2
 have y3:=hBy.cell 3
 have y4:=hBy.cell 4
 simp only [nqg,nqh,nqi] at y0 y1 y2 y3 y4
 clear hBs hBy
 go_wp2_with fail
 refine HBAL.out.mono ?_
 rintro e w5 ⟨rfl,hb5⟩
 have hb6:=bel_adv hb4 hb5
 go_wp2
 go_ret
 exact ⟨rfl,hb6⟩
end Go.Proofs.YtlhkojcmcmkmaaaGreat
