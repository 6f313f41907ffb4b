/- Joined texts: BookG TitleB ShelfB SortB. Conditions: as stated. -/
import Derived.DeepKeys4
import Derived.Shelf.SlGeneric
import Derived.Shelf.SlSortCmp.WholeK
import Derived.Shelf.SlSortCmp.NoneTotal
import Derived.Ground.SlsfProg
import Derived.Test.YtjncpgbhokjbfaaGreatProg
import Derived.StillTailTactics
import Derived.Test.YtjncpgbhokjbfaaGreatJ02
import Derived.Test.YtjncpgbhokjbfaaGreatJ03
import Derived.Test.YtjncpgbhokjbfaaGreatJ04
namespace Go.Proofs.YtjncpgbhokjbfaaGreat
open Go.RowKit
set_option maxHeartbeats 2000000 in
theorem bvalid_any (p:PostT) (w:World) (hz:p.line.code.size≤maxLen) :
  Calls Tryz.prog 64 #[.agg #[.int .i64 p.run,.int .i64 p.employee,.int .i64 p.period,.int .i64 p.line.kind,.string p.line.code,.int .i64 p.line.amount]] w fun e w'=>e = .returned (.bool (validP p))∧Below w.heap.size w w':=by
 have HB:Hid (validP p = ((decide (1≤p.run) && decide (p.run≤256)) && ((decide (1≤p.employee) && decide (p.employee≤2147483647)) && ((decide (0≤p.period) && decide (p.period≤84005)) && formZ p.line)))):=rfl
 by_cases c0:1≤p.run
 rotate_left
 ·
  have HF:Hid (validP p = false):=by rw [Hid,HB.out]; simp [*]
  go_enter Tryz.func64,Tryz.ntmps64
  go_wp2
  go_ret
  exact ⟨by rw [HF.out]; rfl,below_new _ _⟩
 by_cases c1:p.run≤256
 rotate_left
 ·
  have HF:Hid (validP p = false):=by rw [Hid,HB.out]; simp [*]
  go_enter Tryz.func64,Tryz.ntmps64
  go_wp2
  go_ret
  exact ⟨by rw [HF.out]; rfl,below_new _ _⟩
 by_cases c2:1≤p.employee
 rotate_left
 ·
  have HF:Hid (validP p = false):=by rw [Hid,HB.out]; simp [*]
  go_enter Tryz.func64,Tryz.ntmps64
  go_wp2
  go_ret
  exact ⟨by rw [HF.out]; rfl,below_new _ _⟩
 by_cases c3:p.employee≤2147483647
 rotate_left
 ·
  have HF:Hid (validP p = false):=by rw [Hid,HB.out]; simp [*]
  go_enter Tryz.func64,Tryz.ntmps64
  go_wp2
  go_ret
  exact ⟨by rw [HF.out]; rfl,below_new _ _⟩
 by_cases c4:0≤p.period
 rotate_left
 ·
  have HF:Hid (validP p = false):=by rw [Hid,HB.out]; simp [*]
  go_enter Tryz.func64,Tryz.ntmps64
  go_wp2
  go_ret
  exact ⟨by rw [HF.out]; rfl,below_new _ _⟩
 by_cases c5:p.period≤84005
 rotate_left
 ·
  have HF:Hid (validP p = false):=by rw [Hid,HB.out]; simp [*]
  go_enter Tryz.func64,Tryz.ntmps64
  go_wp2
  go_ret
  exact ⟨by rw [HF.out]; rfl,below_new _ _⟩
 skip
 have HF:Hid (validP p = formZ p.line):=by rw [Hid,HB.out]; simp [*]
 go_enter Tryz.func64,Tryz.ntmps64
 go_wp2_with fail
 refine (formp_any p.line _ hz).mono ?_
 rintro e w1 ⟨rfl,hb1⟩
 go_wp2
 go_ret
 exact ⟨by rw [HF.out]; rfl,bel_adv (below_new w _) hb1⟩
theorem ascB_no {xs:List PostT} {k:Nat} (h:k+1 < xs.length) (hn:xs[k+1].run < xs[k].run) : ascB xs = false:=by
 cases hh:ascB xs
 ·
  rfl
 ·
  have:=(ascB_iff xs).1 hh k h
  omega
set_option maxHeartbeats 1000000 in
theorem ascending_any (A:Option Addr) (c:Nat) (xs:List PostT) (w:World) (h:SliceOf encP 6 w w.heap.size A xs) (hl:xs.length≤9223372036854775806) :
  Calls Tryz.prog 33 #[.slice A xs.length c] w fun e w'=>e = .returned (.bool (ascB xs))∧∃ q,w' = w.drewN q:=by
 go_enter Tryz.func33,Tryz.ntmps33
 go_wp2
 go_loopw [3] (fun i wr=>∃ k q:Nat,i = .int .i64 ((k:Int)+1)∧k≤xs.length∧Hid (∀ i,(hi:i+1 < xs.length)→i < k→xs[i].run≤xs[i+1].run)∧Hid (wr = w.drewN q)) (fun i _=>xs.length+1 - (intOf i).toNat)
 case atStart=>exact ⟨0,0,rfl,by omega,fun i _ hi=>absurd hi (by omega),rfl⟩
 case round =>
  obtain ⟨k,q,rfl,hkl,hall,hw⟩:=hrel
  have hx':SliceOf encP 6 wr w.heap.size A xs:=by rw [hw.out]; exact h
  by_cases hlt:k+1 < xs.length
  ·
   obtain ⟨b1,off1,rfl,hb1,hc1⟩:=hx'.at_ hlt
   obtain ⟨b2,off2,hA2,hb2,hc2⟩:=hx'.at_ (show k < xs.length by omega)
   injection hA2 with hA2
   injection hA2 with hA3 hA4
   subst hA3 hA4
   have c0:=hc1 0 _ rfl
   have d0:=hc2 0 _ rfl
   simp only [Nat.add_zero] at c0 d0
   clear hc1 hc2
   have hi1:(k:Int)+1 < (xs.length:Int):=by omega
   have hi2:(k:Int) < (xs.length:Int):=by omega
   by_cases hr:xs[k+1].run < xs[k].run
   ·
    have hn:decide (xs[k+1].run < xs[k].run) = true:=by simpa using hr
    have HN:=Lib.hid (ascB_no hlt hr)
    clear hr
    go_wp2
    go_quiet (fail)
    go_wp2
    go_ret
    exact ⟨by rw [HN.out]; rfl,q+nq,by rw [hw.out,World.drewN_drewN]⟩
   ·
    have hn:decide (xs[k+1].run < xs[k].run) = false:=by simpa using hr
    have hle:xs[k].run≤xs[k+1].run:=by omega
    clear hr
    go_wp2
    go_quiet (fail)
    go_wp2
    go_roundw
    case rel =>
     refine ⟨k+1,q+nq,by go_num,by omega,fun i hi hik=>?_,?_⟩
     ·
      rcases Nat.lt_or_ge i k with h3 | h3
      ·
       exact hall.out i hi h3
      ·
       obtain rfl:i = k:=by omega
       exact hle
     ·
      show wr.drewN nq = w.drewN (q+nq)
      rw [hw.out,World.drewN_drewN]
    case measure=>simp [intOf]; omega
  ·
   have HN:Hid (ascB xs = true):=by
    exact (ascB_iff xs).2 (fun i hi=>hall.out i hi (by omega))
   go_wp2
   go_ret
   exact ⟨by rw [HN.out]; rfl,q,hw.out⟩
set_option maxHeartbeats 1000000 in
theorem bvalids_any (A:Option Addr) (c:Nat) (xs:List PostT) (w:World) (h:SliceOf encP 6 w w.heap.size A xs) (hl:xs.length≤9223372036854775806) (hz : ∀ x ∈ xs,x.line.code.size≤maxLen) :
  Calls Tryz.prog 32 #[.slice A xs.length c] w fun e w'=>e = .returned (.bool (xs.all validP))∧Below w.heap.size w w':=by
 have HZ:=Lib.hid hz
 clear hz
 go_enter Tryz.func32,Tryz.ntmps32
 go_wp2
 go_loopw [7] (fun i wr=>∃ k:Nat,i = .int .i64 k∧k≤xs.length∧Hid (∀ j,(hj:j < xs.length)→j < k→validP xs[j] = true)∧Below w.heap.size w wr) (fun i _=>xs.length - (intOf i).toNat)
 case atStart=>exact ⟨0,rfl,by omega,fun j _ hj=>absurd hj (by omega),Below.refl _ _⟩
 case round =>
  obtain ⟨k,rfl,hkl,hall,hbel⟩:=hrel
  by_cases hlt:k < xs.length
  ·
   obtain ⟨b,off,rfl,hb,hc⟩:=(h.below hbel).at_ hlt
   have c0:=hc 0 _ rfl
   have c1:=hc 1 _ rfl
   have c2:=hc 2 _ rfl
   have c3:=hc 3 _ rfl
   have c4:=hc 4 _ rfl
   have c5:=hc 5 _ rfl
   simp only [Nat.add_zero] at c0
   clear hc
   have hzk:=HZ.out _ (List.getElem_mem hlt)
   go_wp2_with fail
   refine (bvalid_any xs[k] _ hzk).mono ?_
   rintro e w1 ⟨rfl,hb1⟩
   have hbel1:=bel_adv (bel_alloc hbel (.cells #[.int .i64 xs[k].run,.int .i64 xs[k].employee,.int .i64 xs[k].period,.int .i64 xs[k].line.kind,.string xs[k].line.code,.int .i64 xs[k].line.amount] 55)) hb1
   clear hb1 hbel
   rcases hv:validP xs[k] with _ | _
   ·
    have HN:Hid (xs.all validP = false):=by
     rw [Hid,List.all_eq_false]; exact ⟨xs[k],List.getElem_mem _,by simp [hv]⟩
    clear hv
    go_wp2
    go_ret
    exact ⟨by rw [HN.out]; rfl,hbel1⟩
   ·
    have HN:Hid (∀ j,(hj:j < xs.length)→j < k+1→validP xs[j] = true):=by
     intro j hj hjk
     rcases Nat.lt_or_ge j k with h3 | h3
     ·
      exact hall.out j hj h3
     ·
      obtain rfl:j = k:=by omega
      exact hv
    clear hv
    go_wp2
    go_roundw
    case rel=>exact ⟨k+1,by go_num,by omega,HN,hbel1⟩
    case measure=>simp [intOf]; omega
  ·
   have HN:Hid (xs.all validP = true):=by
    rw [Hid,List.all_eq_true]
    intro x hx
    obtain ⟨j,hj,rfl⟩:=List.mem_iff_getElem.1 hx
    exact hall.out j hj (by omega)
   go_wp2
   go_ret
   exact ⟨by rw [HN.out]; rfl,hbel⟩
set_option maxHeartbeats 1000000 in
theorem book_any (A:Option Addr) (c:Nat) (xs:List PostT) (w:World) (h:SliceOf encP 6 w w.heap.size A xs) (hl:xs.length≤9223372036854775806) (hz : ∀ x ∈ xs,x.line.code.size≤maxLen) :
  Calls Tryz.prog 22 #[.slice A xs.length c] w fun e w'=>e = .returned (.bool (bookB xs))∧Below w.heap.size w w':=by
 have HZ:=Lib.hid hz
 clear hz
 have HB:Hid (bookB xs = (decide (xs.length≤65536) && (ascB xs && xs.all validP))):=rfl
 by_cases hlen:xs.length≤65536
 rotate_left
 ·
  have HF:Hid (bookB xs = false):=by rw [Hid,HB.out]; simp [hlen]
  go_enter Tryz.func22,Tryz.ntmps22
  go_wp2
  go_ret
  exact ⟨by rw [HF.out]; rfl,Below.refl _ _⟩
 go_enter Tryz.func22,Tryz.ntmps22
 go_wp2_with fail
 refine (ascending_any A c xs _ h hl).mono ?_
 rintro e w1 ⟨rfl,q1,rfl⟩
 rcases ha:ascB xs with _ | _
 ·
  have HF:Hid (bookB xs = false):=by rw [Hid,HB.out,ha]; simp
  clear ha
  go_wp2
  go_ret
  exact ⟨by rw [HF.out]; rfl,below_drewN (Below.refl _ _) q1⟩
 ·
  have HF:Hid (bookB xs = xs.all validP):=by rw [Hid,HB.out,ha]; simp [hlen]
  clear ha
  go_wp2_with fail
  refine (bvalids_any A c xs _ (h.advD q1) hl HZ.out).mono ?_
  rintro e w2 ⟨rfl,hb2⟩
  generalize xs.all validP = o at HF
  go_wp2
  go_ret
  exact ⟨by rw [HF.out]; rfl,bel_adv (below_drewN (Below.refl _ _) q1) hb2⟩
end Go.Proofs.YtjncpgbhokjbfaaGreat
namespace Go.Proofs.YtjncpgbhokjbfaaGreat
open Go.RowKit Go.Maps Go.WideMaps Go.WideElems Go.ChangeMaps
def litB (c:KeyB) : Lit:=.string (keyBytes [.int .i64 c.1,.int .i64 c.2.1,.int .i64 c.2.2])
def goodB (c:KeyB) : Prop:=(Lit.int .i64 c.1).wf = true∧(Lit.int .i64 c.2.1).wf = true∧(Lit.int .i64 c.2.2).wf = true
theorem lawB : KeyLaw Tryz.prog 64:=deep_law_laid (m:=3) (by kernel_rfl) (by omega) (of_decide_eq_true (by kernel_rfl)) (by kernel_rfl) (by kernel_rfl)
theorem keyB (c:KeyB) (h:goodB c) : keyOf Tryz.prog 64 (.agg #[.int .i64 c.1,.int .i64 c.2.1,.int .i64 c.2.2]) = some (litB c):=by
 obtain ⟨a,b,m⟩:=c
 obtain ⟨h1,h2,h3⟩:=h
 simp only at h1 h2 h3
 have c1:Tryz.prog.cellsOf 64 = 3:=by kernel_rfl
 have c2:Tryz.prog.cellsOf 3 = 1:=by kernel_rfl
 have kt:Tryz.prog.keyType 64 = true:=by kernel_rfl
 have hl:∀ d,Tryz.prog.keyLits (d+1+1) 64 [.int .i64 a,.int .i64 b,.int .i64 m] = some [.int .i64 a,.int .i64 b,.int .i64 m]:=fun d=>by
  simp [Program.keyLits,Tryz.underlying64,Tryz.underlying3,c1,c2,h1,h2,h3]
 have hts:1≤Tryz.prog.types.size:=of_decide_eq_true (by kernel_rfl)
 unfold keyOf
 simp only [Tryz.underlying64,kt,Bool.true_and,Value.formed,c1]
 generalize Tryz.prog.types.size = ts at hts ⊢
 obtain ⟨d,rfl⟩ : ∃ d,ts = d+1:=⟨ts - 1,by omega⟩
 simp only [Value.cells,hl,litB]
 rfl
theorem klI {P:Program} {d:Nat} {t:TypeId} {a:Value} {la:List Lit} (ht:P.underlying t = some (.int .i64)) (h:P.keyLits (d+1) t [a] = some la) : ∃ k : Int,a = .int .i64 k∧(Lit.int .i64 k).wf = true∧la = [.int .i64 k]:=by
 unfold Program.keyLits at h
 simp only [ht] at h
 cases a <;> simp only [reduceCtorEq] at h
 split at h
 ·
  rename_i q n hq
  obtain ⟨rfl,hw⟩:=hq
  injection h with h
  exact ⟨_,rfl,hw,h.symm⟩
 ·
  cases h
set_option maxRecDepth 100000 in
theorem keyB_inv {v:Value} {l:Lit} (h:keyOf Tryz.prog 64 v = some l) : ∃ c : KeyB,v = .agg #[.int .i64 c.1,.int .i64 c.2.1,.int .i64 c.2.2]∧goodB c∧l = litB c:=by
 obtain ⟨xs,L,rfl,hL,rfl⟩:=keyOf_top (by kernel_rfl) h
 have c1:Tryz.prog.cellsOf 64 = 3:=by kernel_rfl
 have c2:Tryz.prog.cellsOf 3 = 1:=by kernel_rfl
 have hts:1≤Tryz.prog.types.size:=of_decide_eq_true (by kernel_rfl)
 generalize Tryz.prog.types.size = ts at hts hL
 obtain ⟨d,rfl⟩ : ∃ d,ts = d+1:=⟨ts - 1,by omega⟩
 unfold Program.keyLits at hL
 simp only [Tryz.underlying64,c1] at hL
 split at hL
 ·
  rename_i hlen
  obtain ⟨hlen,_⟩:=hlen
  generalize hys:xs.toList = ys at hL hlen
  obtain ⟨a,b,m,rfl⟩ : ∃ a b m,ys = [a,b,m]:=by
   rcases ys with _ | ⟨a,_ | ⟨b,_ | ⟨c,_ | ⟨q,ys⟩⟩⟩⟩
   ·
    simp at hlen
   ·
    simp at hlen
   ·
    simp at hlen
   ·
    exact ⟨a,b,c,rfl⟩
   ·
    simp at hlen
  have hxs:xs = #[a,b,m]:=by rw [← hys]
  simp [c2] at hL
  simp only [Function.comp,Option.map_eq_some_iff,Option.bind_eq_some_iff,Option.some.injEq] at hL
  obtain ⟨la,hla,q,⟨q2,⟨lb,hlb,q3,⟨lc,hlc,rfl⟩,rfl⟩,rfl⟩,rfl⟩:=hL
  obtain ⟨k1,rfl,hw1,rfl⟩:=klI Tryz.underlying3 hla
  obtain ⟨k2,rfl,hw2,rfl⟩:=klI Tryz.underlying3 hlb
  obtain ⟨k3,rfl,hw3,rfl⟩:=klI Tryz.underlying3 hlc
  exact ⟨(k1,k2,k3),by rw [hxs],⟨hw1,hw2,hw3⟩,rfl⟩
 ·
  cases hL
theorem agg3_inj {a b c d e f : Value} (h:Value.agg #[a,b,c] = Value.agg #[d,e,f]) : a = d∧b = e∧c = f:=by simpa using h
set_option maxRecDepth 100000 in
theorem keyGB : KeyG litB goodB where
 lit c _:=trivial
 inj c d hc hd e:=by
  have h1:=keyB c hc
  have h2:=keyB d hd
  rw [← e] at h2
  have:=lawB.inj h1 h2
  obtain ⟨h3,h4,h5⟩:=agg3_inj this
  injection h3 with _ h3
  injection h4 with _ h4
  injection h5 with _ h5
  exact Prod.ext h3 (Prod.ext h4 h5)
end Go.Proofs.YtjncpgbhokjbfaaGreat
namespace Go.Proofs
open Go.Shelf
def Tryz.sortB_ren : Go.Shelf.Ren:=⟨fun | 6=>43 | 15=>73 | 14=>72 | 28=>132 | 29=>133 | 20=>124 | 21=>125 | 22=>126 | 23=>127 | 24=>128 | 25=>129 | 26=>130 | 27=>131 | 46=>160 | 47=>161 | 48=>162 | 49=>163 | 50=>164 | 57=>180 | n=>n,fun | 22=>27 | 24=>64 | 25=>103 | 3=>3 | 39=>144 | 0=>0 | 53=>192 | 55=>194 | 4=>4 | 46=>185 | 45=>184 | 50=>189 | 5=>5 | 9=>9 | 66=>216 | 70=>220 | 76=>233 | 77=>234 | n=>n,fun | n=>n⟩
theorem Tryz.sortB : Go.Proofs.SlLaysF0.n6 Tryz.prog Tryz.sortB_ren:={
 mixed:=by kernel_rfl
 f6:=⟨Tryz.f43.name,by decide,Tryz.func43.trans (congrArg some (by kernel_rfl))⟩
 f14:=⟨Tryz.f72.name,by decide,Tryz.func72.trans (congrArg some (by kernel_rfl))⟩
 f15:=Tryz.func73.trans (congrArg some (by kernel_rfl))
 f20:=⟨Tryz.f124.name,by decide,Tryz.func124.trans (congrArg some (by kernel_rfl))⟩
 f21:=⟨Tryz.f125.name,by decide,Tryz.func125.trans (congrArg some (by kernel_rfl))⟩
 f22:=⟨Tryz.f126.name,by decide,Tryz.func126.trans (congrArg some (by kernel_rfl))⟩
 f23:=⟨Tryz.f127.name,by decide,Tryz.func127.trans (congrArg some (by kernel_rfl))⟩
 f24:=⟨Tryz.f128.name,by decide,Tryz.func128.trans (congrArg some (by kernel_rfl))⟩
 f25:=⟨Tryz.f129.name,by decide,Tryz.func129.trans (congrArg some (by kernel_rfl))⟩
 f26:=⟨Tryz.f130.name,by decide,Tryz.func130.trans (congrArg some (by kernel_rfl))⟩
 f27:=⟨Tryz.f131.name,by decide,Tryz.func131.trans (congrArg some (by kernel_rfl))⟩
 f28:=Tryz.func132.trans (congrArg some (by kernel_rfl))
 f29:=Tryz.func133.trans (congrArg some (by kernel_rfl))
 f46:=⟨Tryz.f160.name,by decide,Tryz.func160.trans (congrArg some (by kernel_rfl))⟩
 f47:=Tryz.func161.trans (congrArg some (by kernel_rfl))
 f48:=Tryz.func162.trans (congrArg some (by kernel_rfl))
 f49:=⟨Tryz.f163.name,by decide,Tryz.func163.trans (congrArg some (by kernel_rfl))⟩
 f50:=⟨Tryz.f164.name,by decide,Tryz.func164.trans (congrArg some (by kernel_rfl))⟩
 f57:=⟨Tryz.f180.name,by decide,Tryz.func180.trans (congrArg some (by kernel_rfl))⟩
 t0:=Tryz.underlying0
 a0:=Tryz.isAgg0
 z0:=Tryz.sizeOf0
 v0:=Tryz.zeroValue0
 t3:=Tryz.underlying3
 a3:=Tryz.isAgg3
 z3:=Tryz.sizeOf3
 v3:=Tryz.zeroValue3
 t4:=Tryz.underlying4
 a4:=Tryz.isAgg4
 z4:=Tryz.sizeOf4
 v4:=Tryz.zeroValue4
 t5:=Tryz.underlying5
 a5:=Tryz.isAgg5
 z5:=Tryz.sizeOf5
 v5:=Tryz.zeroValue5
 t9:=Tryz.underlying9
 a9:=Tryz.isAgg9
 z9:=Tryz.sizeOf9
 v9:=Tryz.zeroValue9
 t22:=Tryz.underlying27
 a22:=Tryz.isAgg27
 z22:=Tryz.sizeOf27
 v22:=Tryz.zeroValue27
 t25:=Tryz.underlying103
 a25:=Tryz.isAgg103
 z25:=Tryz.sizeOf103
 v25:=Tryz.zeroValue103
 t39:=Tryz.underlying144
 a39:=Tryz.isAgg144
 z39:=Tryz.sizeOf144
 v39:=Tryz.zeroValue144
 t45:=Tryz.underlying184
 a45:=Tryz.isAgg184
 z45:=Tryz.sizeOf184
 v45:=Tryz.zeroValue184
 t46:=Tryz.underlying185
 a46:=Tryz.isAgg185
 z46:=Tryz.sizeOf185
 v46:=Tryz.zeroValue185
 t50:=Tryz.underlying189
 a50:=Tryz.isAgg189
 z50:=Tryz.sizeOf189
 v50:=Tryz.zeroValue189
 t53:=Tryz.underlying192
 a53:=Tryz.isAgg192
 z53:=Tryz.sizeOf192
 v53:=Tryz.zeroValue192
 t55:=Tryz.underlying194
 a55:=Tryz.isAgg194
 z55:=Tryz.sizeOf194
 v55:=Tryz.zeroValue194
 t66:=Tryz.underlying216
 a66:=Tryz.isAgg216
 z66:=Tryz.sizeOf216
 v66:=Tryz.zeroValue216
 t70:=Tryz.underlying220
 a70:=Tryz.isAgg220
 z70:=Tryz.sizeOf220
 v70:=Tryz.zeroValue220
 t76:=Tryz.underlying233
 a76:=Tryz.isAgg233
 z76:=Tryz.sizeOf233
 v76:=Tryz.zeroValue233
 t77:=Tryz.underlying234
 a77:=Tryz.isAgg234
 z77:=Tryz.sizeOf234
 v77:=Tryz.zeroValue234 }
end Go.Proofs
namespace Go.Proofs.YtjncpgbhokjbfaaGreat
open Go.RowKit Go.Sort Go.Shelf
def cmpB (x y : BookT) : Int:=orI (cmpI x.run y.run) (cmpI x.account y.account)
instance : Inhabited BookT:=⟨⟨0,0,0⟩⟩
def lessB (x y : BookT) : Bool:=RB.lt (RB.key x) (RB.key y)
set_option maxRecDepth 100000 in
set_option maxHeartbeats 1000000 in
theorem orderB_any (x y : BookT) (W:World) : Calls Tryz.prog 44 #[.agg #[.int .i64 x.run,.int .i64 x.account,.int .i64 x.amount],.agg #[.int .i64 y.run,.int .i64 y.account,.int .i64 y.amount]] W fun e w'=>e = .returned (.int .i64 (cmpB x y))∧∃ q os',w' = grow (W.drewN q) os':=by
 go_enter Tryz.func44,Tryz.ntmps44
 go_wp2
 refine wp_region_still_tail 10 (by kernel_rfl) (by kernel_rfl) ?_
 simp only [List.take_succ_cons,List.take_zero,List.drop_succ_cons,List.drop_zero]
 change wpStill _ _ (World.drew _) (fun a'=>wpList _ _ _ _ a' (World.drew _)) _ _
 iterate 4 still_step
 still_call ((compareI_any _ _ _).mono fun e w' ⟨h1,h2⟩=>⟨h1,h2.symm⟩)
 iterate 4 still_step
 still_call ((compareI_any _ _ _).mono fun e w' ⟨h1,h2⟩=>⟨h1,h2.symm⟩)
 refine wpStill_nil ?_
 go_wp2_with fail
 refine (or_any (cmpI x.run y.run) (cmpI x.account y.account) _ _ _ _ (by go_simp) (by go_simp)).mono ?_
 rintro e w1 ⟨rfl,rfl⟩
 go_wp2
 go_ret
 exact ⟨rfl,1,_,by rw [alloc_eq_grow,alloc_eq_grow,alloc_eq_grow,grow_grow,grow_grow]; rfl⟩
theorem ltBk (x y : BookT) : ltOf cmpB x y = lessB x y:=by
 rw [lessB,ltB_eq]
 unfold ltOf cmpB orI cmpI
 rcases Int.lt_trichotomy x.run y.run with h | h | h
 ·
  simp [h]
 ·
  rcases Int.lt_trichotomy x.account y.account with g | g | g
  ·
   simp [h,g]
  ·
   simp [h,g]
  ·
   have g1:¬ x.account < y.account:=by omega
   simp [h,g,g1]
 ·
  have h1:¬ x.run < y.run:=by omega
  have h2:¬ x.run = y.run:=by omega
  simp [h,h1,h2]
theorem Rec.ntrans {α κ : Type} {R:Rec α κ} (L:R.Law) (a b c : κ) (h1:R.lt a b = false) (h2:R.lt b c = false) : R.lt a c = false:=by
 cases h:R.lt a c
 ·
  rfl
 ·
  cases hb:R.lt b a
  ·
   have:=L.total _ _ h1 hb
   subst this
   rw [h] at h2; cases h2
  ·
   rw [L.trans _ _ _ hb h] at h2; cases h2
theorem swoB : SWO (ltOf cmpB) where
 irrefl x:=by rw [ltBk]; exact RB_law.irrefl _
 trans x y z h1 h2:=by
  rw [ltBk] at *
  exact RB_law.trans _ _ _ h1 h2
 ntrans x y z h1 h2:=by
  rw [ltBk] at *
  exact Rec.ntrans RB_law _ _ _ h1 h2
theorem only_sortB_any (w:World) (blk off n : Nat) (d:Array BookT) (os:Array Obj) : w.grownBy (sortWorldK encB 3 w blk off n d os) (some blk):=by
 refine ⟨rfl,rfl,rfl,size_sortWorldK_c encB 3 w blk off n d os,fun i hi hne=>?_⟩
 have hne':blk ≠ i:=fun e=>hne (by rw [e])
 have hsz:(putRowK encB 3 (Sort.ahead w n) blk off d).heap.size = w.heap.size:=by simp [putRowK,putRow,mapBlock,Sort.ahead]
 show ((putRowK encB 3 (Sort.ahead w n) blk off d).heap++os)[i]? = w.heap[i]?
 rw [Array.getElem?_append_left (by omega)]
 show (w.heap.modify blk _)[i]? = _
 rw [Array.getElem?_modify,if_neg hne']
set_option maxHeartbeats 1000000 in
theorem sortB_any (A:Option Addr) (cap base : Nat) (xs:List BookT) (w:World) (hown:Own encB 3 64 w base (.slice A xs.length cap) xs) (hl:xs.length < 4611686018427387904) :
  Calls Tryz.prog 43 #[.slice A xs.length cap,.func (.func 44) #[] #[]] w fun e w'=>e = .returned (.tuple #[]) ∧
   ∃ ys:List BookT,ys.Perm xs∧ys.Pairwise (fun a b=>lessB b a = false)∧SliceOf encB 3 w' w'.heap.size A ys∧Below base w w':=by
 rcases hown.2 with ⟨hv,h0⟩ | ⟨g,cap',cur,hv,hb,hg,hn,hm,hs,ht⟩
 ·
  injection hv with h1 h2 h3
  obtain rfl:xs = []:=List.eq_nil_of_length_eq_zero h0
  have hcon:=AnyF.slices_SortFunc_none { Tryz.sortB with } A cap (.func (.func 44) #[] #[]) w
  refine Calls.mono hcon fun e w' ⟨he,hw⟩=>⟨he,[],List.Perm.refl _,List.Pairwise.nil,SliceOf.nil_,by rw [hw]; exact Below.refl _ _⟩
 ·
  injection hv with h1 h2 h3
  subst h1 h3
  have hgl:=(Array.getElem?_eq_some_iff.1 hg).1
  have eg:∀ args w,(callFunc 44 args).run Tryz.prog w = .ok (.enter 44 args) w:=enters_of Tryz.func44 (by kernel_rfl) rfl
  have hcmp:CmpLays Tryz.prog 44 #[] encB 3 cmpB g 0 xs.toArray.size w:=fun _ _ _ _ x y=>orderB_any x y _
  have hH:HoldsK encB 3 w g 0 xs.toArray:=by
   intro j hj
   rw [size_flatK] at hj
   simp only [List.size_toArray] at hj
   have hdiv:j / 3 < xs.length:=by omega
   have hmod:j % 3 < 3:=Nat.mod_lt _ (by omega)
   refine ⟨?_,by simp [World.frozen?,hg]⟩
   rw [get_flatK _ _ _ _ (by simpa using hj),Nat.zero_add,cell_of_row w g j cur _ (0,0) hg]
   have hx:xs.toArray[j / 3]! = xs[j / 3]:=by simp [hdiv]
   rw [hx]
   have hu:(encB xs[j / 3])[j % 3]? = some ((encB xs[j / 3])[j % 3]!):=by
    have hlt:j % 3 < (encB xs[j / 3]).length:=by rw [encB_len]; exact hmod
    rw [List.getElem?_eq_getElem hlt,getElem!_pos (encB xs[j / 3]) (j % 3) hlt]
   have h1:=flatMap_at encB_len xs (j / 3) (j % 3) _ _ (List.getElem?_eq_getElem hdiv) hu
   rw [show j / 3 * 3+j % 3 = j by omega] at h1
   rw [← ht,List.getElem?_take,if_pos (by omega)] at h1
   simpa using h1
  have hcon:=AnyQ.slices_SortFunc Tryz.sortB 3 Tryz.isAgg64 Tryz.sizeOf64 encB encB_len encB_one cmpB swoB 44 #[] g 0 cap xs.toArray w eg hcmp hH hgl (by simpa using hl)
  have hcon':Calls Tryz.prog 43 #[.slice (some ⟨g,0,none⟩) xs.length cap,.func (.func 44) #[] #[]] w _:=hcon
  refine hcon'.mono ?_
  rintro e w' ⟨he,d',n,os,hp,hsd,rfl⟩
  obtain ⟨hp1,hp2,hp3⟩:=hp
  refine ⟨he,d'.toList,?_,?_,?_,only_below (only_sortB_any _ _ _ _ _ _) (by omega) (fun q e=>by injection e; omega)⟩
  ·
   have e1:xs.toArray.size = xs.length:=by simp
   rw [e1] at hp1 hp3
   have e2:(d'.extract 0 xs.length) = d':=by rw [← hp1]; simp
   have e3:(xs.toArray.extract 0 xs.length) = xs.toArray:=by simp
   rw [e2,e3] at hp3
   exact hp3
  ·
   rw [List.pairwise_iff_getElem]
   intro i j hi hj hij
   have h1:=hsd i j (Nat.zero_le _) hij (by rw [← hp1]; simpa using hj)
   rw [ltBk,getElem!_pos d' i (by simpa using hi),getElem!_pos d' j (by simpa using hj)] at h1
   simpa using h1
  ·
   intro _
   refine ⟨g,0,rfl,lt_sortWorldK encB 3 w g 0 n d' os hgl,fun i x hi j u hu=>?_⟩
   have hH':=holdsK_sortWorldK_c encB 3 w g 0 xs.toArray d' n os hH hgl hp1
   have hil:i < d'.size:=by simpa using (List.getElem?_eq_some_iff.1 hi).1
   have hjl:j < 3:=by have:=(List.getElem?_eq_some_iff.1 hu).1; rwa [encB_len] at this
   have h1:=(hH' (i * 3+j) (by rw [size_flatK]; omega)).1
   rw [get_flatK _ _ _ _ (by omega),show (i * 3+j) / 3 = i by omega,show (i * 3+j) % 3 = j by omega,getElem!_pos d' i hil] at h1
   have hx:d'[i] = x:=by
    have:=(List.getElem?_eq_some_iff.1 hi).2
    simpa using this
   rw [hx] at h1
   have hu2:(encB x)[j]! = u:=by
    have hlt:=(List.getElem?_eq_some_iff.1 hu).1
    rw [getElem!_pos (encB x) j hlt]
    exact (List.getElem?_eq_some_iff.1 hu).2
   rw [hu2] at h1
   rw [Nat.zero_add]
   rw [Nat.zero_add] at h1
   exact h1
end Go.Proofs.YtjncpgbhokjbfaaGreat
