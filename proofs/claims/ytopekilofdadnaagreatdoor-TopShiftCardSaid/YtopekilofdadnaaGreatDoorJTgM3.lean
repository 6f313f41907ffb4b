/- Joined texts: TgM3. Conditions: as stated. -/
import Derived.Test.YtopekilofdadnaaGreatDoorJTgE
import Derived.Test.YtopekilofdadnaaGreatDoorJKeyK
import Derived.Test.YtopekilofdadnaaGreatDoorJTgM2
namespace Go.Proofs.YtopekilofdadnaaGreatDoor
open Go.RowKit Go.Maps Go.Sort Go.Shelf
theorem zeroIntM (w:World) : (zeroValue 3).run Tryz.prog w = .ok (.int .i64 0) w:=by kernel_rfl
theorem zeroArrM (w:World) : (zeroValue 178).run Tryz.prog w = .ok (.agg #[.int .i64 0,.int .i64 0,.int .i64 0,.int .i64 0,.int .i64 0,.int .i64 0,.int .i64 0,.int .i64 0,.int .i64 0,.int .i64 0,.int .i64 0,.int .i64 0,.int .i64 0,.int .i64 0,.int .i64 0,.int .i64 0]) w:=by kernel_rfl
def sumPc (l:List PcT) : Int:=(l.map fun p=>p.iv.t - p.iv.f).sum
theorem sumPc_take (l:List PcT) (k:Nat) (h:k < l.length) : sumPc (l.take (k+1)) = sumPc (l.take k)+(l[k].iv.t - l[k].iv.f):=by
 unfold sumPc
 rw [List.take_succ_eq_append_getElem h,List.map_append,List.sum_append]
 simp
structure PcsOk (l:List PcT) : Prop where
 len:l.length≤4096
 ok:∀ p ∈ l,(0≤p.iv.f∧p.iv.f < p.iv.t∧p.iv.t≤120968640)∧0≤p.day∧p.day≤84005
 sum:sumPc l≤100000
theorem sumPc_nn {l:List PcT} (h : ∀ p ∈ l,p.iv.f < p.iv.t) : 0≤sumPc l:=by
 induction l with
 | nil=>exact Int.le_refl _
 | cons p l ih =>
  have:=ih fun q hq=>h q (by simp [hq])
  have:=h p (by simp)
  simp only [sumPc,List.map_cons,List.sum_cons] at *
  omega
theorem PcsOk.take {l:List PcT} (h:PcsOk l) (k:Nat) : 0≤sumPc (l.take k)∧sumPc (l.take k)≤100000:=by
 have h1:sumPc l = sumPc (l.take k)+sumPc (l.drop k):=by
  conv=>lhs; rw [← List.take_append_drop k l]
  unfold sumPc
  rw [List.map_append,List.sum_append]
 have h2:=sumPc_nn (l:=l.take k) fun p hp=>(h.ok p (List.mem_of_mem_take hp)).1.2.1
 have h3:=sumPc_nn (l:=l.drop k) fun p hp=>(h.ok p (List.mem_of_mem_drop hp)).1.2.1
 have:=h.sum
 omega
section
set_option maxHeartbeats 8000000
set_option maxRecDepth 100000
theorem chooseM (c:Int) (w:World) : Calls Tryz.prog 107 #[.slice none 0 0,.int .i64 c] w fun e w'=>e = .returned (.int .i64 0)∧Below w.heap.size w w':=by
 have hmm:=@run_makeMap Tryz.prog
 have hb0:=below_new w (.map #[] 0)
 have hm0:=MapAt.made keyS w
 go_enter Tryz.func107,Tryz.ntmps107
 go_wp2_with fail
 generalize w.alloc (.map #[] 0) = w1 at hm0 hb0 ⊢
 refine wp_loop_rounds 1 ?_
 rw [rounds_succ]
 go_wp2_with (at_range; refine wpList_range_at (by rfl) _ 138 (by rfl) Tryz.underlying138 hm0 (by rfl) ?_; intro w2 cnt0 hrg0 hgr0 hsz2 hcnt0)
 go_frame
 have hb2:=bel_only hb0 hgr0 (fun g e=>by cases e)
 refine wp_loop_rounds 1 ?_
 rw [rounds_succ]
 go_wp2_with (at_next; refine wpList_next_at (by rfl) _ (by rfl) (by rfl) hrg0 ?_ ?_)
 intro _
 go_wp2
 go_ret
 exact ⟨rfl,hb2⟩
def AlmPost (w:World) (e:Ending) (w' : World) : Prop:=∃ q gy gd,e = .returned (.pointer (some ⟨q,0,none⟩))∧AlmIn w' w.heap.size q gy gd 0∧Below w.heap.size w w'∧q < w'.heap.size∧gy < w'.heap.size∧gd < w'.heap.size∧w.heap.size≤q
theorem almanacM (w:World) (h0:0 < w.heap.size) : Calls Tryz.prog 104 #[.slice none 0 0] w (AlmPost w):=by
 have hmm:=@run_makeMap Tryz.prog
 have fin:AlmPost w (.returned (.pointer (some ⟨w.heap.size+1+1,0,none⟩))) (((w.alloc (.map #[] 0)).alloc (.map #[] 0)).alloc (.cells #[.slice none 0 0,.map (some w.heap.size),.map (some (w.heap.size+1))] 280)):=by
  have hB:=Blk.new ((w.alloc (.map #[] 0)).alloc (.map #[] 0)) 280 #[.slice none 0 0,.map (some w.heap.size),.map (some (w.heap.size+1))]
  have h1:=MapC.made keyI w (.slice none 0 0)
  have h2:=MapC.made keyI (w.alloc (.map #[] 0)) (.bool false)
  rw [World.size_alloc] at h2
  rw [World.size_alloc,World.size_alloc] at hB
  exact ⟨_,_,_,rfl,⟨hB,(h1.alloc _).alloc _,h2.alloc _,by omega,Nat.le_refl _,by omega,h0⟩,bel_alloc (bel_alloc (below_new w _) _) _,by simp,by simp; omega,by simp,by omega⟩
 have FIN:=Lib.hid fin
 clear fin
 go_enter Tryz.func104,Tryz.ntmps104
 go_wp2
 go_ret
 exact FIN.out
theorem checkM (A:Option Addr) (c:Nat) (l:List PcT) (w:World) (hS:SliceOf encPc 4 w w.heap.size A l) (hl:PcsOk l) :
  Calls Tryz.prog 65 #[.slice A l.length c] w fun e w'=>e = .returned (.int .i64 0)∧Below w.heap.size w w':=by
 have HL:=Lib.hid hl
 have hlen:=hl.len
 clear hl
 go_enter Tryz.func65,Tryz.ntmps65
 go_wp2
 go_loopw [3,11] (fun s i wr=>∃ k:Nat,k≤l.length∧i = .int .i64 k∧s = .int .i64 (sumPc (l.take k))∧Below w.heap.size w wr) (fun _ i _=>l.length - (RowKit.intOf i).toNat)
 case atStart=>exact ⟨0,by omega,rfl,rfl,Below.refl _ _⟩
 case round =>
  obtain ⟨k,hk,rfl,rfl,hbr⟩:=hrel
  have hbs:=hbr.size
  obtain ⟨s1,s2⟩:=HL.out.take k
  by_cases hlt:k < l.length
  ·
   obtain ⟨⟨g1,g2,g3⟩,g4,g5⟩:=HL.out.ok _ (List.getElem_mem hlt)
   obtain ⟨s3,s4⟩:=HL.out.take (k+1)
   have HT:=Lib.hid (sumPc_take l k hlt)
   rw [HT.out] at s3 s4
   obtain ⟨q,off,rfl,hq,hc⟩:=(hS.below hbr).at_ hlt
   have c0:=hc 0 _ rfl
   have c1:=hc 1 _ rfl
   have c2:=hc 2 _ rfl
   have c3:=hc 3 _ rfl
   simp only [Nat.add_zero] at c0
   have hqw:q < wr.heap.size:=by omega
   have hki:(k:Int) < (l.length:Int):=by omega
   clear hc
   generalize l[k] = x at c0 c1 c2 c3 HT g1 g2 g3 g4 g5 s3 s4
   obtain ⟨pd,⟨pf,pt⟩,pb⟩:=x
   simp only at c0 c1 c2 c3 HT g1 g2 g3 g4 g5 s3 s4
   generalize sumPc (l.take k) = S at s1 s2 s3 s4 HT ⊢
   have n1:decide (pd < 0) = false:=by simp; omega
   have n2:decide (84005 < pd) = false:=by simp; omega
   have n3:decide (pf < 0) = false:=by simp; omega
   have n4:decide (pt≤pf) = false:=by simp; omega
   have n5:decide (120968640 < pt) = false:=by simp; omega
   go_wp2
   go_roundw
   case rel=>exact ⟨k+1,by omega,by go_num,by rw [HT.out],bel_alloc hbr _⟩
   case measure=>simp [RowKit.intOf]; omega
  ·
   obtain rfl:k = l.length:=by omega
   generalize sumPc (l.take l.length) = S at s1 s2 ⊢
   have hn:¬ 100000 < S:=by omega
   go_wp2
   go_ret
   exact ⟨rfl,hbr⟩
end
end Go.Proofs.YtopekilofdadnaaGreatDoor
