/- Joined texts: Wage3 Line Line2 Ent. Conditions: as stated. -/
import Derived.Deep.Light
import Derived.Test.YtjncpgbhokjbfaaGreatJ01
import Derived.Test.YtjncpgbhokjbfaaGreatJ02
namespace Go.Proofs.YtjncpgbhokjbfaaGreat
open Go.RowKit
def zeroW : WageT:=⟨⟨#[]⟩,0,false,false,false,0⟩
def hasC (c:ByteArray) (x:WageT) : Bool:=x.code.toList == c.toList
def findW (xs:List WageT) (c:ByteArray) : Option WageT:=xs.find? (hasC c)
def foundV (o:Option WageT) : Value:=.tuple #[.agg (encW (o.getD zeroW)).toArray,.bool o.isSome]
theorem findW_some {xs:List WageT} {c:ByteArray} {k:Nat} (hk:k < xs.length) (h : ∀ j,(hj:j < xs.length)→j < k→hasC c xs[j] = false) (hh:hasC c xs[k] = true) : findW xs c = some xs[k]:=by
 unfold findW
 rw [List.find?_eq_some_iff_getElem]
 refine ⟨hh,k,hk,rfl,fun j hj=>?_⟩
 rw [h j (by omega) hj]; rfl
theorem findW_none {xs:List WageT} {c:ByteArray} (h : ∀ j,(hj:j < xs.length)→hasC c xs[j] = false) : findW xs c = none:=by
 unfold findW
 rw [List.find?_eq_none]
 intro x hx
 obtain ⟨j,hj,rfl⟩:=List.mem_iff_getElem.1 hx
 rw [h j hj]; simp
set_option maxHeartbeats 1000000 in
theorem find_any (A:Option Addr) (cap:Nat) (xs:List WageT) (c:ByteArray) (w:World) (h:SliceOf encW 6 w w.heap.size A xs) (hl:xs.length≤9223372036854775806) :
  Calls Tryz.prog 40 #[.slice A xs.length cap,.string c] w fun e w'=>e = .returned (foundV (findW xs c))∧Below w.heap.size w w':=by
 go_enter Tryz.func40,Tryz.ntmps40
 go_wp2
 go_loopw [10] (fun i wr=>∃ k:Nat,k≤xs.length∧i = .int .i64 k∧Hid (∀ j,(hj:j < xs.length)→j < k→hasC c xs[j] = false)∧Below w.heap.size w wr∧Blk wr w.heap.size 61 (encW zeroW).toArray) (fun i _=>xs.length - (intOf i).toNat)
 case atStart=>exact ⟨0,by omega,rfl,fun j _ hj=>absurd hj (by omega),(Below.refl _ _).alloc (Nat.le_refl _) _,Blk.new _ _ _⟩
 case round =>
  obtain ⟨k,hk,rfl,hall,hbel,hblk⟩:=hrel
  have hz:=hblk.lt
  have z0:=hblk.cell 0
  have z1:=hblk.cell 1
  have z2:=hblk.cell 2
  have z3:=hblk.cell 3
  have z4:=hblk.cell 4
  have z5:=hblk.cell 5
  have f0:=hblk.frozen 0
  have f1:=hblk.frozen 1
  have f2:=hblk.frozen 2
  have f3:=hblk.frozen 3
  have f4:=hblk.frozen 4
  have f5:=hblk.frozen 5
  simp only [encW,zeroW,List.getElem?_toArray,List.getElem?_cons_zero,List.getElem?_cons_succ] at z0 z1 z2 z3 z4 z5
  by_cases hlt:k < xs.length
  ·
   obtain ⟨b,off,rfl,hb,hc⟩:=(h.below hbel).at_ hlt
   have c0:=hc 0 _ rfl
   have c1:=hc 1 _ rfl
   have c2:=hc 2 _ rfl
   have c3:=hc 3 _ rfl
   have c4:=hc 4 _ rfl
   have c5:=hc 5 _ rfl
   simp only [Nat.add_zero] at c0
   clear hc
   have hbb:b < wr.heap.size:=by omega
   by_cases ht:(xs[k].code.toList == c.toList) = true
   ·
    have HF:=Lib.hid (findW_some hlt hall.out ht)
    go_wp2
    have hfb:=(hblk.put6 rfl (.string xs[k].code) (.int .i64 xs[k].kind) (.bool xs[k].taxable) (.bool xs[k].insured) (.bool xs[k].attachable) (.int .i64 xs[k].account)).alloc (Obj.cells #[Value.string xs[k].code,Value.int IntKind.i64 xs[k].kind,Value.bool xs[k].taxable,Value.bool xs[k].insured,Value.bool xs[k].attachable,Value.int IntKind.i64 xs[k].account] 61)
    have hfB:Below w.heap.size w _:=(below_put (below_put (below_put (below_put (below_put (below_put hbel (Nat.le_refl _) 0 (.string xs[k].code)) (Nat.le_refl _) 1 (.int .i64 xs[k].kind)) (Nat.le_refl _) 2 (.bool xs[k].taxable)) (Nat.le_refl _) 3 (.bool xs[k].insured)) (Nat.le_refl _) 4 (.bool xs[k].attachable)) (Nat.le_refl _) 5 (.int .i64 xs[k].account)).alloc (by simp; omega) (Obj.cells #[Value.string xs[k].code,Value.int IntKind.i64 xs[k].kind,Value.bool xs[k].taxable,Value.bool xs[k].insured,Value.bool xs[k].attachable,Value.int IntKind.i64 xs[k].account] 61)
    generalize World.alloc _ _ = WW at hfb hfB ⊢
    have q0:=hfb.cell 0
    have q1:=hfb.cell 1
    have q2:=hfb.cell 2
    have q3:=hfb.cell 3
    have q4:=hfb.cell 4
    have q5:=hfb.cell 5
    simp only [nqg,nqh,nqi] at q0 q1 q2 q3 q4 q5
    refine bodyPost_ret (v:=foundV (some xs[k])) (by simp [results,Tryz.results40,go_sem,q0,q1,q2,q3,q4,q5,foundV,encW]) rfl ⟨by rw [HF.out],hfB⟩
   ·
    have ht':(xs[k].code.toList == c.toList) = false:=by simpa using ht
    clear ht
    go_wp2
    go_roundw
    case rel =>
     refine ⟨k+1,by omega,by go_num,fun j hj hjk=>?_,hbel.alloc (by omega) _,hblk.alloc _⟩
     rcases Nat.lt_or_ge j k with h1 | h1
     ·
      exact hall.out j hj h1
     ·
      obtain rfl:j = k:=by omega
      exact ht'
    case measure=>simp [intOf]; omega
  ·
   have HF:=Lib.hid (findW_none (xs:=xs) (c:=c) (fun j hj=>hall.out j hj (by omega)))
   go_wp2
   have hfb:=hblk.put6 rfl (.string { data:=#[] }) (.int .i64 0) (.bool false) (.bool false) (.bool false) (.int .i64 0)
   have hfB:Below w.heap.size w _:=below_put (below_put (below_put (below_put (below_put (below_put hbel (Nat.le_refl _) 0 (.string { data:=#[] })) (Nat.le_refl _) 1 (.int .i64 0)) (Nat.le_refl _) 2 (.bool false)) (Nat.le_refl _) 3 (.bool false)) (Nat.le_refl _) 4 (.bool false)) (Nat.le_refl _) 5 (.int .i64 0)
   generalize World.setCell _ _ (Value.int .i64 0) = WW at hfb hfB ⊢
   have q0:=hfb.cell 0
   have q1:=hfb.cell 1
   have q2:=hfb.cell 2
   have q3:=hfb.cell 3
   have q4:=hfb.cell 4
   have q5:=hfb.cell 5
   simp only [nqg,nqh,nqi] at q0 q1 q2 q3 q4 q5
   refine bodyPost_ret (v:=foundV none) (by simp [results,Tryz.results40,go_sem,q0,q1,q2,q3,q4,q5,foundV,encW,zeroW]) rfl ⟨by rw [HF.out],hfB⟩
set_option maxHeartbeats 1000000 in
theorem find26_any (A:Option Addr) (cap:Nat) (xs:List WageT) (c:ByteArray) (w:World) (h:SliceOf encW 6 w w.heap.size A xs) (hl:xs.length≤9223372036854775806) :
  Calls Tryz.prog 53 #[.slice A xs.length cap,.string c] w fun e w'=>e = .returned (foundV (findW xs c))∧Below w.heap.size w w':=by
 go_enter Tryz.func53,Tryz.ntmps53
 go_wp2
 go_loopw [6] (fun i wr=>∃ k:Nat,k≤xs.length∧i = .int .i64 k∧Hid (∀ j,(hj:j < xs.length)→j < k→hasC c xs[j] = false)∧Below w.heap.size w wr∧Blk wr w.heap.size 61 (encW zeroW).toArray) (fun i _=>xs.length - (intOf i).toNat)
 case atStart=>exact ⟨0,by omega,rfl,fun j _ hj=>absurd hj (by omega),(Below.refl _ _).alloc (Nat.le_refl _) _,Blk.new _ _ _⟩
 case round =>
  obtain ⟨k,hk,rfl,hall,hbel,hblk⟩:=hrel
  have hz:=hblk.lt
  have z0:=hblk.cell 0
  have z1:=hblk.cell 1
  have z2:=hblk.cell 2
  have z3:=hblk.cell 3
  have z4:=hblk.cell 4
  have z5:=hblk.cell 5
  have f0:=hblk.frozen 0
  have f1:=hblk.frozen 1
  have f2:=hblk.frozen 2
  have f3:=hblk.frozen 3
  have f4:=hblk.frozen 4
  have f5:=hblk.frozen 5
  simp only [encW,zeroW,List.getElem?_toArray,List.getElem?_cons_zero,List.getElem?_cons_succ] at z0 z1 z2 z3 z4 z5
  by_cases hlt:k < xs.length
  ·
   obtain ⟨b,off,rfl,hb,hc⟩:=(h.below hbel).at_ hlt
   have c0:=hc 0 _ rfl
   have c1:=hc 1 _ rfl
   have c2:=hc 2 _ rfl
   have c3:=hc 3 _ rfl
   have c4:=hc 4 _ rfl
   have c5:=hc 5 _ rfl
   simp only [Nat.add_zero] at c0
   clear hc
   have hbb:b < wr.heap.size:=by omega
   by_cases ht:(xs[k].code.toList == c.toList) = true
   ·
    have HF:=Lib.hid (findW_some hlt hall.out ht)
    go_wp2
    have hfb:=hblk.put6 rfl (.string xs[k].code) (.int .i64 xs[k].kind) (.bool xs[k].taxable) (.bool xs[k].insured) (.bool xs[k].attachable) (.int .i64 xs[k].account)
    have hfB:Below w.heap.size w _:=below_put (below_put (below_put (below_put (below_put (below_put hbel (Nat.le_refl _) 0 (.string xs[k].code)) (Nat.le_refl _) 1 (.int .i64 xs[k].kind)) (Nat.le_refl _) 2 (.bool xs[k].taxable)) (Nat.le_refl _) 3 (.bool xs[k].insured)) (Nat.le_refl _) 4 (.bool xs[k].attachable)) (Nat.le_refl _) 5 (.int .i64 xs[k].account)
    generalize World.setCell _ _ (Value.int .i64 xs[k].account) = WW at hfb hfB ⊢
    have q0:=hfb.cell 0
    have q1:=hfb.cell 1
    have q2:=hfb.cell 2
    have q3:=hfb.cell 3
    have q4:=hfb.cell 4
    have q5:=hfb.cell 5
    simp only [nqg,nqh,nqi] at q0 q1 q2 q3 q4 q5
    refine bodyPost_ret (v:=foundV (some xs[k])) (by simp [results,Tryz.results53,go_sem,q0,q1,q2,q3,q4,q5,foundV,encW]) rfl ⟨by rw [HF.out],hfB⟩
   ·
    have ht':(xs[k].code.toList == c.toList) = false:=by simpa using ht
    clear ht
    go_wp2
    go_roundw
    case rel =>
     refine ⟨k+1,by omega,by go_num,fun j hj hjk=>?_,hbel,hblk⟩
     rcases Nat.lt_or_ge j k with h1 | h1
     ·
      exact hall.out j hj h1
     ·
      obtain rfl:j = k:=by omega
      exact ht'
    case measure=>simp [intOf]; omega
  ·
   have HF:=Lib.hid (findW_none (xs:=xs) (c:=c) (fun j hj=>hall.out j hj (by omega)))
   go_wp2
   have hfb:=hblk.put6 rfl (.string { data:=#[] }) (.int .i64 0) (.bool false) (.bool false) (.bool false) (.int .i64 0)
   have hfB:Below w.heap.size w _:=below_put (below_put (below_put (below_put (below_put (below_put hbel (Nat.le_refl _) 0 (.string { data:=#[] })) (Nat.le_refl _) 1 (.int .i64 0)) (Nat.le_refl _) 2 (.bool false)) (Nat.le_refl _) 3 (.bool false)) (Nat.le_refl _) 4 (.bool false)) (Nat.le_refl _) 5 (.int .i64 0)
   generalize World.setCell _ _ (Value.int .i64 0) = WW at hfb hfB ⊢
   have q0:=hfb.cell 0
   have q1:=hfb.cell 1
   have q2:=hfb.cell 2
   have q3:=hfb.cell 3
   have q4:=hfb.cell 4
   have q5:=hfb.cell 5
   simp only [nqg,nqh,nqi] at q0 q1 q2 q3 q4 q5
   refine bodyPost_ret (v:=foundV none) (by simp [results,Tryz.results53,go_sem,q0,q1,q2,q3,q4,q5,foundV,encW,zeroW]) rfl ⟨by rw [HF.out],hfB⟩
set_option maxHeartbeats 400000 in
theorem amount26_any (n:Int) (w:World) :
  Calls Tryz.prog 58 #[.int .i64 n] w fun e w'=>e = .returned (.bool (amtB n))∧w = w':=by
 by_cases h1 : -1000000000≤n <;> by_cases h2:n≤1000000000
 all_goals
  have hb:amtB n = (decide (-1000000000≤n) && decide (n≤1000000000)):=by simp [amtB]
  have HB:=Lib.hid hb; clear hb
  go_enter Tryz.func58,Tryz.ntmps58
  go_wp2
  go_ret
  exact ⟨by rw [HB.out]; simp [h1,h2],rfl⟩
end Go.Proofs.YtjncpgbhokjbfaaGreat
namespace Go.Proofs.YtjncpgbhokjbfaaGreat
open Go.RowKit
structure LineT where
 kind:Int
 code:ByteArray
 amount:Int
deriving DecidableEq
def encL (x:LineT) : List Value:=[.int .i64 x.kind,.string x.code,.int .i64 x.amount]
theorem encL_len (x:LineT) : (encL x).length = 3:=rfl
theorem encL_one (x:LineT) : ∀ u ∈ encL x,u.oneCell' = true:=by intro u hu; simp [encL] at hu; rcases hu with rfl | rfl | rfl <;> rfl
theorem infoL : (Tryz.prog.info? 53).map (fun i=>(i.zero,i.size,i.bytes)) = some (some (.agg #[.int .i64 0,.string ⟨#[]⟩,.int .i64 0]),3,32):=by kernel_rfl
structure PostT where
 run:Int
 employee:Int
 period:Int
 line:LineT
deriving DecidableEq
def encP (x:PostT) : List Value:=[.int .i64 x.run,.int .i64 x.employee,.int .i64 x.period,.int .i64 x.line.kind,.string x.line.code,.int .i64 x.line.amount]
theorem encP_len (x:PostT) : (encP x).length = 6:=rfl
theorem encP_one (x:PostT) : ∀ u ∈ encP x,u.oneCell' = true:=by intro u hu; simp [encP] at hu; rcases hu with rfl | rfl | rfl | rfl | rfl | rfl <;> rfl
def aggP (x:PostT) : Value:=.agg #[.int .i64 x.run,.int .i64 x.employee,.int .i64 x.period,.int .i64 x.line.kind,.string x.line.code,.int .i64 x.line.amount]
theorem infoP : (Tryz.prog.info? 55).map (fun i=>(i.zero,i.size,i.bytes)) = some (some (.agg #[.int .i64 0,.int .i64 0,.int .i64 0,.int .i64 0,.string ⟨#[]⟩,.int .i64 0]),6,56):=by kernel_rfl
theorem guardL : Tryz.prog.eqGuardType Tryz.prog.depth 53 = false:=by kernel_rfl
theorem neqselfL (y:LineT) (w:World) : Sem.run Tryz.prog (binOp .neq 53 (.agg #[.int .i64 y.kind,.string y.code,.int .i64 y.amount]) (.agg #[.int .i64 y.kind,.string y.code,.int .i64 y.amount])) w = .ok (.bool false) w:=by
 have u0:=Tryz.underlying3
 have a0:=Tryz.isAgg3
 have z0:=Tryz.sizeOf3
 have u1:=Tryz.underlying9
 have a1:=Tryz.isAgg9
 have z1:=Tryz.sizeOf9
 have hS:Tryz.prog.underlying 53 = some (.struct (Tryz.prog.fieldsOf 53)):=by kernel_rfl
 have hp:Tryz.prog.stoodInHeld 53 = false:=by kernel_rfl
 rw [run_neq_struct,show (10000:Nat) = 9999+1 from rfl,run_equalIn_agg w 9999 53 _ _ hS hp]
 simp only [Program.fieldsOf,Tryz.underlying53]
 go_simp
set_option maxHeartbeats 1000000 in
theorem sameL_self (A B : Option Addr) (c d : Nat) (xs:List LineT) (w:World) (hx:SliceOf encL 3 w w.heap.size A xs) (hy:SliceOf encL 3 w w.heap.size B xs) (hl:xs.length≤9223372036854775807) :
  Calls Tryz.prog 16 #[.slice A xs.length c,.slice B xs.length d] w fun e w'=>e = .returned (.bool true)∧∃ q,w' = w.drewN q:=by
 have hlen':((xs.length:Int) != (xs.length:Int)) = false:=by simp
 go_enter Tryz.func16,Tryz.ntmps16
 go_wp2
 go_loopw [5] (fun i wr=>∃ k q:Nat,k≤xs.length∧i = .int .i64 k∧Hid (wr = w.drewN q)) (fun i _=>xs.length - (intOf i).toNat)
 case atStart=>exact ⟨0,0,by omega,rfl,rfl⟩
 case round =>
  obtain ⟨k,q,hk,rfl,hw⟩:=hrel
  have hx':SliceOf encL 3 wr w.heap.size A xs:=by rw [hw.out]; exact hx
  have hy':SliceOf encL 3 wr w.heap.size B xs:=by rw [hw.out]; exact hy
  by_cases hlt:k < xs.length
  ·
   obtain ⟨b1,off1,rfl,hb1,hc1⟩:=hx'.at_ hlt
   obtain ⟨b2,off2,rfl,hb2,hc2⟩:=hy'.at_ hlt
   have c0:=hc1 0 _ rfl
   have c1:=hc1 1 _ rfl
   have c2:=hc1 2 _ rfl
   have d0:=hc2 0 _ rfl
   have d1:=hc2 1 _ rfl
   have d2:=hc2 2 _ rfl
   simp only [Nat.add_zero] at c0 d0
   clear hc1 hc2
   have hn:=fun (w:World)=>neqselfL xs[k] w
   have hgd:=guardL
   go_wp2
   go_quiet (fail)
   go_wp2
   go_roundw
   case rel =>
    refine ⟨k+1,q+nq,by omega,by go_num,?_⟩
    show wr.drewN nq = w.drewN (q+nq)
    rw [hw.out,World.drewN_drewN]
   case measure=>simp [intOf]; omega
  ·
   go_wp2
   go_ret
   exact ⟨rfl,q,hw.out⟩
def bareB (k:Int) : Bool:=k == 6 || k == 9 || k == 10
def codeB (x:LineT) : Bool:=if bareB x.kind then decide (x.code.size = 0) else nameB x.code
def formB (x:LineT) : Bool:=decide (1≤x.kind) && decide (x.kind≤10) && maxN x.amount && codeB x
def ltL (a b : Int × List UInt8) : Bool:=decide (a.1 < b.1) || (decide (a.1 = b.1) && decide (a.2 < b.2))
def RL : Rec LineT (Int × List UInt8):=⟨fun x=>(x.kind,x.code.data.toList),(·.amount),fun x n=>⟨x.kind,x.code,n⟩,ltL⟩
theorem ba_ext {a b : ByteArray} (h:a.data.toList = b.data.toList) : a = b:=by
 obtain ⟨⟨l⟩⟩:=a
 obtain ⟨⟨m⟩⟩:=b
 simp at h
 rw [h]
theorem RL_law : RL.Law where
 key_set _ _:=rfl
 amt_set _ _:=rfl
 ext x y h1 h2:=by
  obtain ⟨a,b,c⟩:=x
  obtain ⟨a',b',c'⟩:=y
  simp only [RL,Prod.mk.injEq] at h1 h2
  obtain ⟨rfl,h1⟩:=h1
  rw [ba_ext h1,h2]
 irrefl a:=by simp [RL,ltL,List.lt_irrefl]
 trans a b c h1 h2:=by
  simp only [RL,ltL,Bool.or_eq_true,Bool.and_eq_true,decide_eq_true_eq] at *
  rcases h1 with h1 | ⟨h1,h3⟩
  ·
   rcases h2 with h2 | ⟨h2,h4⟩
   ·
    left; omega
   ·
    left; omega
  ·
   rcases h2 with h2 | ⟨h2,h4⟩
   ·
    left; omega
   ·
    exact .inr ⟨by omega,List.lt_trans h3 h4⟩
 total a b h1 h2:=by
  simp only [RL,ltL,Bool.or_eq_false_iff,Bool.and_eq_false_iff,decide_eq_false_iff_not] at *
  have h3:a.1 = b.1:=by omega
  have h4:¬ a.2 < b.2:=h1.2.resolve_left (fun h=>h h3)
  have h5:¬ b.2 < a.2:=h2.2.resolve_left (fun h=>h h3.symm)
  exact Prod.ext h3 (List.le_antisymm (List.not_lt.1 h5) (List.not_lt.1 h4))
set_option maxHeartbeats 1000000 in
theorem bare32_any (k:Int) (w:World) : Calls Tryz.prog 121 #[.int .i64 k] w fun e w'=>e = .returned (.bool (bareB k))∧w = w':=by
 rcases h1:(k == 6) with _ | _ <;> rcases h2:(k == 9) with _ | _ <;> rcases h3:(k == 10) with _ | _
 all_goals
  have HB:Hid (bareB k = ((k == 6) || (k == 9) || (k == 10))):=rfl
  go_enter Tryz.func121,Tryz.ntmps121
  go_wp2
  go_ret
  exact ⟨by rw [HB.out,h1,h2,h3]; rfl,rfl⟩
set_option maxHeartbeats 1000000 in
theorem barep_any (k:Int) (w:World) : Calls Tryz.prog 155 #[.int .i64 k] w fun e w'=>e = .returned (.bool (bareB k))∧w = w':=by
 rcases h1:(k == 6) with _ | _ <;> rcases h2:(k == 9) with _ | _ <;> rcases h3:(k == 10) with _ | _
 all_goals
  have HB:Hid (bareB k = ((k == 6) || (k == 9) || (k == 10))):=rfl
  go_enter Tryz.func155,Tryz.ntmps155
  go_wp2
  go_ret
  exact ⟨by rw [HB.out,h1,h2,h3]; rfl,rfl⟩
set_option maxHeartbeats 1000000 in
theorem isTotal_any (n:Int) (w:World) : Calls Tryz.prog 114 #[.int .i64 n] w fun e w'=>e = .returned (.bool (maxN n))∧w = w':=by
 by_cases h1 : -1000000000000≤n <;> by_cases h2:n≤1000000000000
 all_goals
  have hb:maxN n = (decide (-1000000000000≤n) && decide (n≤1000000000000)):=by simp [maxN]
  have HB:=Lib.hid hb; clear hb
  go_enter Tryz.func114,Tryz.ntmps114
  go_wp2
  go_ret
  exact ⟨by rw [HB.out]; simp [h1,h2],rfl⟩
end Go.Proofs.YtjncpgbhokjbfaaGreat
namespace Go.Proofs.YtjncpgbhokjbfaaGreat
open Go.RowKit
theorem isEmpty_emp (s:ByteArray) (h : ¬ 0 < s.size) : s.toList.isEmpty = true:=by rw [toList_emp s h]; rfl
theorem form_lo {x:LineT} (h : ¬ 1≤x.kind) : formB x = false:=by simp [formB,h]
theorem form_hi {x:LineT} (h : ¬ x.kind≤10) : formB x = false:=by simp [formB,h]
theorem form_am {x:LineT} (h : ¬ maxN x.amount = true) : formB x = false:=by
 have:maxN x.amount = false:=by simpa using h
 simp [formB,this]
theorem form_code {x:LineT} (h1:1≤x.kind) (h2:x.kind≤10) (h3:maxN x.amount = true) : formB x = codeB x:=by simp [formB,h1,h2,h3]
theorem code_bare {x:LineT} (h:bareB x.kind = true) : codeB x = decide (x.code.size = 0):=by simp [codeB,h]
theorem code_name {x:LineT} (h:bareB x.kind = false) : codeB x = nameB x.code:=by simp [codeB,h]
set_option maxHeartbeats 2000000 in
theorem formed_any (x:LineT) (w:World) (hz:x.code.size≤maxLen) :
  Calls Tryz.prog 113 #[.agg #[.int .i64 x.kind,.string x.code,.int .i64 x.amount]] w fun e w'=>e = .returned (.bool (formB x))∧Below w.heap.size w w':=by
 by_cases c0:1≤x.kind
 ·
  by_cases c1:x.kind≤10
  ·
   by_cases c2:maxN x.amount = true
   ·
    have HF:=Lib.hid (form_code c0 c1 c2)
    rcases hb:bareB x.kind with _ | _
    ·
     have HC:=Lib.hid (code_name hb)
     go_enter Tryz.func113,Tryz.ntmps113
     go_wp2_with (first | (go_at_call 114; refine (isTotal_any _ _).mono ?_; rintro e w' ⟨rfl,rfl⟩) | (go_at_call 155; refine (barep_any _ _).mono ?_; rintro e w' ⟨rfl,rfl⟩) | (go_at_call 38; refine (isName_any _ _ hz).mono ?_; rintro e w' ⟨rfl,rfl⟩))
     go_ret
     exact ⟨by rw [HF.out,HC.out]; rfl,below_new _ _⟩
    ·
     have HC:=Lib.hid (code_bare hb)
     by_cases hs:0 < x.code.size
     ·
      have e1:=toList_ne x.code hs
      have e2:=isEmpty_ne x.code hs
      go_enter Tryz.func113,Tryz.ntmps113
      go_wp2_with (first | (go_at_call 114; refine (isTotal_any _ _).mono ?_; rintro e w' ⟨rfl,rfl⟩) | (go_at_call 155; refine (barep_any _ _).mono ?_; rintro e w' ⟨rfl,rfl⟩))
      go_ret
      exact ⟨by rw [HF.out,HC.out,decide_eq_false (show ¬ x.code.size = 0 by omega)]; rfl,below_new _ _⟩
     ·
      have e1:=toList_emp x.code hs
      have e2:=isEmpty_emp x.code hs
      have hs0:Hid (x.code.size = 0):=by rw [Hid]; omega
      go_enter Tryz.func113,Tryz.ntmps113
      go_wp2_with (first | (go_at_call 114; refine (isTotal_any _ _).mono ?_; rintro e w' ⟨rfl,rfl⟩) | (go_at_call 155; refine (barep_any _ _).mono ?_; rintro e w' ⟨rfl,rfl⟩))
      go_ret
      exact ⟨by rw [HF.out,HC.out,decide_eq_true hs0.out]; rfl,below_new _ _⟩
   ·
    have HF:=Lib.hid (form_am c2)
    go_enter Tryz.func113,Tryz.ntmps113
    go_wp2_with (first | (go_at_call 114; refine (isTotal_any _ _).mono ?_; rintro e w' ⟨rfl,rfl⟩))
    go_ret
    exact ⟨by rw [HF.out]; rfl,below_new _ _⟩
  ·
   have HF:=Lib.hid (form_hi c1)
   go_enter Tryz.func113,Tryz.ntmps113
   go_wp2
   go_ret
   exact ⟨by rw [HF.out]; rfl,below_new _ _⟩
 ·
  have HF:=Lib.hid (form_lo c0)
  go_enter Tryz.func113,Tryz.ntmps113
  go_wp2
  go_ret
  exact ⟨by rw [HF.out]; rfl,below_new _ _⟩
set_option maxHeartbeats 2000000 in
theorem form32_any (x:LineT) (w:World) (hz:x.code.size≤maxLen) :
  Calls Tryz.prog 69 #[.agg #[.int .i64 x.kind,.string x.code,.int .i64 x.amount]] w fun e w'=>e = .returned (.bool (formB x))∧Below w.heap.size w w':=by
 by_cases c0:1≤x.kind
 ·
  by_cases c1:x.kind≤10
  ·
   by_cases c2 : -1000000000000≤x.amount
   ·
    by_cases c3:x.amount≤1000000000000
    ·
     have hm:maxN x.amount = true:=by simp [maxN,c2,c3]
     have HF:=Lib.hid (form_code c0 c1 hm)
     clear hm
     rcases hb:bareB x.kind with _ | _
     ·
      have HC:=Lib.hid (code_name hb)
      go_enter Tryz.func69,Tryz.ntmps69
      go_wp2_with (go_at_call 121; refine (bare32_any _ _).mono ?_; rintro e w' ⟨rfl,rfl⟩)
      refine (isName17_any _ _ hz).mono ?_
      rintro e w1 ⟨rfl,hb1⟩
      go_wp2
      go_ret
      exact ⟨by rw [HF.out,HC.out]; rfl,bel_adv (below_new _ _) hb1⟩
     ·
      have HC:=Lib.hid (code_bare hb)
      by_cases hs:0 < x.code.size
      ·
       have e1:=toList_ne x.code hs
       have e2:=isEmpty_ne x.code hs
       go_enter Tryz.func69,Tryz.ntmps69
       go_wp2_with (go_at_call 121; refine (bare32_any _ _).mono ?_; rintro e w' ⟨rfl,rfl⟩)
       go_ret
       exact ⟨by rw [HF.out,HC.out,decide_eq_false (show ¬ x.code.size = 0 by omega)]; rfl,below_new _ _⟩
      ·
       have e1:=toList_emp x.code hs
       have e2:=isEmpty_emp x.code hs
       have hs0:Hid (x.code.size = 0):=by rw [Hid]; omega
       go_enter Tryz.func69,Tryz.ntmps69
       go_wp2_with (go_at_call 121; refine (bare32_any _ _).mono ?_; rintro e w' ⟨rfl,rfl⟩)
       go_ret
       exact ⟨by rw [HF.out,HC.out,decide_eq_true hs0.out]; rfl,below_new _ _⟩
    ·
     have HF:=Lib.hid (form_am (x:=x) (by simp [maxN,c3]))
     go_enter Tryz.func69,Tryz.ntmps69
     go_wp2
     go_ret
     exact ⟨by rw [HF.out]; rfl,below_new _ _⟩
   ·
    have HF:=Lib.hid (form_am (x:=x) (by simp [maxN,c2]))
    go_enter Tryz.func69,Tryz.ntmps69
    go_wp2
    go_ret
    exact ⟨by rw [HF.out]; rfl,below_new _ _⟩
  ·
   have HF:=Lib.hid (form_hi c1)
   go_enter Tryz.func69,Tryz.ntmps69
   go_wp2
   go_ret
   exact ⟨by rw [HF.out]; rfl,below_new _ _⟩
 ·
  have HF:=Lib.hid (form_lo c0)
  go_enter Tryz.func69,Tryz.ntmps69
  go_wp2
  go_ret
  exact ⟨by rw [HF.out]; rfl,below_new _ _⟩
def lessL (x y : LineT) : Bool:=RL.lt (RL.key x) (RL.key y)
theorem less_eqL : ∀ (x y : List UInt8),Op.bytesLess x y = decide (x < y)
 | [],[]=>by simp [Op.bytesLess]
 | _ :: _,[]=>by simp [Op.bytesLess]
 | [],_ :: _=>by simp [Op.bytesLess]
 | a :: x,b :: y=>by
  rw [Op.bytesLess,less_eqL x y]
  simp only [List.cons_lt_cons_iff]
  by_cases h1:a < b <;> by_cases h2:a = b <;> by_cases h3:x < y <;> simp [h1,h2,h3]
theorem lessL_eq (x y : LineT) : lessL x y = (decide (x.kind < y.kind) || (decide (x.kind = y.kind) && Op.bytesLess x.code.toList y.code.toList)):=by
 rw [less_eqL,ByteArray.toList_eq,ByteArray.toList_eq]; rfl
set_option maxHeartbeats 2000000 in
theorem less32_any (x y : LineT) (w:World) :
  Calls Tryz.prog 119 #[.agg #[.int .i64 x.kind,.string x.code,.int .i64 x.amount],.agg #[.int .i64 y.kind,.string y.code,.int .i64 y.amount]] w fun e w'=>e = .returned (.bool (lessL x y))∧Below w.heap.size w w':=by
 have HL:=Lib.hid (lessL_eq x y)
 rcases Int.lt_trichotomy x.kind y.kind with h | h | h
 ·
  go_enter Tryz.func119,Tryz.ntmps119
  go_wp2
  go_ret
  exact ⟨by rw [HL.out,decide_eq_true (show x.kind < y.kind by omega)]; rfl,bel_alloc (below_new _ _) _⟩
 ·
  have h1:(x.kind == y.kind) = true:=by simp [h]
  have h2:¬ x.kind < y.kind:=by omega
  have H:=Lib.hid h
  clear h
  rcases hc:Op.bytesLess x.code.toList y.code.toList with _ | _
  all_goals
   go_enter Tryz.func119,Tryz.ntmps119
   go_wp2
   go_ret
   exact ⟨by rw [HL.out,decide_eq_false (show ¬ x.kind < y.kind by omega),decide_eq_true H.out,hc]; rfl,bel_alloc (below_new _ _) _⟩
 ·
  have h1:(x.kind == y.kind) = false:=by simp; omega
  have h2:¬ x.kind < y.kind:=by omega
  have h3:¬ x.kind = y.kind:=by omega
  go_enter Tryz.func119,Tryz.ntmps119
  go_wp2
  go_ret
  exact ⟨by rw [HL.out,decide_eq_false (show ¬ x.kind < y.kind by omega),decide_eq_false (show ¬ x.kind = y.kind by omega)]; rfl,bel_alloc (below_new _ _) _⟩
def formZ (x:LineT) : Bool:=formB x && (x.amount != 0)
set_option maxHeartbeats 2000000 in
theorem formp_any (x:LineT) (w:World) (hz:x.code.size≤maxLen) :
  Calls Tryz.prog 117 #[.agg #[.int .i64 x.kind,.string x.code,.int .i64 x.amount]] w fun e w'=>e = .returned (.bool (formZ x))∧Below w.heap.size w w':=by
 have HZ:Hid (formZ x = (formB x && (x.amount != 0))):=rfl
 go_enter Tryz.func117,Tryz.ntmps117
 go_wp2_with fail
 refine (formed_any x _ hz).mono ?_
 rintro e w1 ⟨rfl,hb1⟩
 have hB:=(Blk.new w _ _).adv hb1
 have z0:=hB.cell 0
 have z1:=hB.cell 1
 have z2:=hB.cell 2
 simp only [nqg,nqh,nqi] at z0 z1 z2
 have hl:=hB.lt
 have hbel:=bel_adv (below_new w _) hb1
 clear hB hb1
 rcases hf:formB x with _ | _
 ·
  go_wp2
  go_ret
  exact ⟨by rw [HZ.out,hf]; rfl,hbel⟩
 ·
  go_wp2
  go_ret
  exact ⟨by rw [HZ.out,hf]; simp,hbel⟩
end Go.Proofs.YtjncpgbhokjbfaaGreat
namespace Go.Proofs.YtjncpgbhokjbfaaGreat
open Go.RowKit
def validP (p:PostT) : Bool:=(decide (1≤p.run) && decide (p.run≤256)) && ((decide (1≤p.employee) && decide (p.employee≤2147483647)) && ((decide (0≤p.period) && decide (p.period≤84005)) && formZ p.line))
def ascB (xs : List PostT) : Bool := decide (∀ i, (hi : i < xs.length - 1) → (xs[i]'(by omega)).run ≤ (xs[i + 1]'(by omega)).run)
theorem ascB_iff (xs:List PostT) : ascB xs = true ↔ ∀ i,(hi:i+1 < xs.length)→xs[i].run≤xs[i+1].run:=by
 unfold ascB
 rw [decide_eq_true_eq]
 exact ⟨fun h i hi=>h i (by omega),fun h i hi=>h i (by omega)⟩
def bookB (xs:List PostT) : Bool:=decide (xs.length≤65536) && (ascB xs && xs.all validP)
theorem validP_iff (p:PostT) : validP p = true ↔ (1≤p.run∧p.run≤256)∧(1≤p.employee∧p.employee≤2147483647)∧(0≤p.period∧p.period≤84005)∧formZ p.line = true:=by simp [validP]
theorem validP_amt {p:PostT} (h:validP p = true) : -1000000000000≤p.line.amount∧p.line.amount≤1000000000000:=by
 have:=((validP_iff p).1 h).2.2.2
 simp [formZ,formB,maxN] at this
 omega
theorem bookB_iff (xs:List PostT) : bookB xs = true ↔ xs.length≤65536∧(∀ i,(hi:i+1 < xs.length)→xs[i].run≤xs[i+1].run)∧∀ x ∈ xs,validP x = true:=by
 simp only [bookB,Bool.and_eq_true,decide_eq_true_eq,ascB_iff,List.all_eq_true]
def entsK (k r a : Int) : List BookT :=
 if k = 3 then [⟨r,106,-a⟩] else if k = 4 then [⟨r,103,-a⟩] else if k = 5 then [⟨r,104,a⟩,⟨r,103,-a⟩] else if k = 6 then [⟨r,102,-a⟩] else if k = 7 then [⟨r,105,-a⟩] else if k = 8 then [⟨r,107,-a⟩] else if k = 9 then [⟨r,100,-a⟩] else if k = 10 then [⟨r,101,a⟩] else []
def entOf (ws:List WageT) (p:PostT) : List BookT:=if p.line.kind = 1 then (match findW ws p.line.code with | some t=>[⟨p.run,t.account,p.line.amount⟩] | none=>[]) else entsK p.line.kind p.run p.line.amount
def entMiss (ws:List WageT) (p:PostT) : Bool:=decide (p.line.kind = 1) && (findW ws p.line.code).isNone
def entAll (ws:List WageT) (l:List PostT) : List BookT:=l.flatMap (entOf ws)
def eErr (ws:List WageT) (l:List PostT) : Int:=if validB ws = false then 1 else if bookB l = false then 1 else if l.any (entMiss ws) then 16 else mErrB (entAll ws l)
def eRes (ws:List WageT) (l:List PostT) : List BookT:=if eErr ws l = 0 then mRB (entAll ws l) else []
theorem eErr_1 {ws:List WageT} {l:List PostT} (h:validB ws = false ∨ bookB l = false) : eErr ws l = 1:=by
 unfold eErr
 rcases h with h | h
 ·
  rw [if_pos h]
 ·
  rw [if_pos h]; split <;> rfl
theorem eErr_16 {ws:List WageT} {l:List PostT} (h1:validB ws = true) (h2:bookB l = true) (h:l.any (entMiss ws) = true) : eErr ws l = 16:=by
 unfold eErr
 rw [if_neg (by simp [h1]),if_neg (by simp [h2]),if_pos h]
theorem eErr_m {ws:List WageT} {l:List PostT} (h1:validB ws = true) (h2:bookB l = true) (h:l.any (entMiss ws) = false) : eErr ws l = mErrB (entAll ws l):=by
 unfold eErr
 rw [if_neg (by simp [h1]),if_neg (by simp [h2]),if_neg (by simp [h])]
theorem eRes_no {ws:List WageT} {l:List PostT} {n:Int} (h:eErr ws l = n) (hn:n ≠ 0) : eRes ws l = []:=by rw [eRes,if_neg (by rw [h]; exact hn)]
theorem eRes_m {ws:List WageT} {l:List PostT} (h:eErr ws l = mErrB (entAll ws l)) : eRes ws l = mRB (entAll ws l):=by
 unfold eRes
 split
 ·
  rfl
 ·
  rename_i hh
  rw [h] at hh
  rw [mRB,if_neg hh]
theorem entsK_len (k r a : Int) : (entsK k r a).length≤2:=by
 unfold entsK
 repeat (split; · simp)
 simp
theorem entOf_len (ws:List WageT) (p:PostT) : (entOf ws p).length≤2:=by
 unfold entOf
 split
 ·
  split <;> simp
 ·
  exact entsK_len _ _ _
theorem entAll_len (ws:List WageT) (l:List PostT) : (entAll ws l).length≤2 * l.length:=by
 induction l with
 | nil=>simp [entAll]
 | cons a l ih =>
  have:=entOf_len ws a
  simp only [entAll,List.flatMap_cons,List.length_append,List.length_cons] at ih ⊢
  omega
theorem entAll_take (ws:List WageT) (l:List PostT) (k:Nat) (h:k < l.length) : entAll ws (l.take (k+1)) = entAll ws (l.take k)++entOf ws l[k]:=by
 rw [List.take_succ_eq_append_getElem h]
 unfold entAll
 rw [List.flatMap_append]
 simp only [List.flatMap_cons,List.flatMap_nil,List.append_nil]
def EntPost (ws:List WageT) (p:PostT) (w:World) (e:Ending) (w' : World) : Prop :=
 ∃ v,e = .returned (.tuple #[v,.bool (!entMiss ws p)])∧(entMiss ws p = false→∃ A c,v = .slice A (entOf ws p).length c∧SliceOf encB 3 w' w'.heap.size A (entOf ws p))∧Below w.heap.size w w'
end Go.Proofs.YtjncpgbhokjbfaaGreat
