/- Joined texts: TgS. Conditions: as stated. -/
import Derived.Lib.Walk
import Derived.Test.YtopekilofdadnaaGreatDoorJTgE
import Derived.Test.YtopekilofdadnaaGreatDoorJTgQ
import Derived.Test.YtopekilofdadnaaGreatDoorJIterC
namespace Go.Proofs.YtopekilofdadnaaGreatDoor
open Go.RowKit Go.Sort Go.Shelf
theorem bel1_no {b early late i : Int} {v:IvT} {q:Int × Int} (h : ¬ ((-early≤b - v.f∧b - v.f≤late) ∨ (0≤b - v.f∧b < v.t))) : bel1 b early late i v q = q:=by
 unfold bel1; simp only; rw [if_neg h]
theorem bel1_keep {b early late i : Int} {v:IvT} {B N M : Int} (hM:max (b - v.f) (-(b - v.f)) = M) (h : (-early≤b - v.f∧b - v.f≤late) ∨ (0≤b - v.f∧b < v.t)) (h2 : ¬ (B < 0 ∨ M < N)) : bel1 b early late i v (B,N) = (B,N):=by
 unfold bel1; simp only; rw [if_pos h,hM,if_neg h2]
theorem bel1_new {b early late i : Int} {v:IvT} {B N M : Int} (hM:max (b - v.f) (-(b - v.f)) = M) (h : (-early≤b - v.f∧b - v.f≤late) ∨ (0≤b - v.f∧b < v.t)) (h2:B < 0 ∨ M < N) : bel1 b early late i v (B,N) = (i,M):=by
 unfold bel1; simp only; rw [if_pos h,hM,if_pos h2]
section
set_option maxHeartbeats 8000000
set_option maxRecDepth 100000
theorem belongsS (A:Option Addr) (c:Nat) (l:List IvT) (b early late : Int) (w:World) (hS:SliceOf encIv 2 w w.heap.size A l) (hl:l.length≤1024) (hb:0≤b∧b≤120968640) (he:0≤early∧early≤1440) (hla:0≤late∧late≤1440) (hv : ∀ x ∈ l,0≤x.f∧x.f≤120968640) :
    Calls Tryz.prog 92 #[.slice A l.length c,.int .i64 b,.int .i64 early,.int .i64 late] w fun e w'=>e = .returned (.int .i64 (belN b early late l))∧Below w.heap.size w w':=by
  have HV:=Lib.hid hv
  obtain ⟨b1,b2⟩:=hb
  obtain ⟨e1,e2⟩:=he
  obtain ⟨l1,l2⟩:=hla
  clear hv
  go_enter Tryz.func92,Tryz.ntmps92
  go_wp2
  go_loopw [9,10,18] (fun p q i wr=>∃ (k:Nat) (B N:Int),k≤l.length∧i = .int .i64 k∧p = .int .i64 B∧q = .int .i64 N∧0≤N∧N≤200000000∧Hid (belTo b early late l k = (B,N))∧Below w.heap.size w wr) (fun _ _ i _=>l.length - (intOf i).toNat)
  case atStart=>exact ⟨0,-1,0,by omega,rfl,rfl,rfl,by omega,by omega,rfl,Below.refl _ _⟩
  case round =>
    obtain ⟨k,B,N,hk,rfl,rfl,rfl,n1,n2,hE,hbr⟩:=hrel
    have hbs:=hbr.size
    by_cases hlt:k < l.length
    · have hx:=HV.out _ (List.getElem_mem hlt)
      have hst:belTo b early late l (k+1) = bel1 b early late k l[k] (B,N):=by
        rw [belTo,hE.out,List.getD_eq_getElem?_getD,List.getElem?_eq_getElem hlt]; rfl
      have HST:=Lib.hid hst
      obtain ⟨q,off,rfl,hq,hc⟩:=(hS.below hbr).at_ hlt
      have c0:=hc 0 _ rfl
      have c1:=hc 1 _ rfl
      simp only [Nat.add_zero] at c0
      have hqw:q < wr.heap.size:=by omega
      have hki:(k:Int) < (l.length:Int):=by omega
      clear hc hst
      generalize l[k] = v at c0 c1 HST hx
      obtain ⟨f,t⟩:=v
      obtain ⟨f1,f2⟩:=hx
      simp only at c0 c1 f1 f2
      have hbrA:=Lib.hid (bel_alloc hbr (.cells #[.int .i64 f,.int .i64 t] 34))
      clear hE hbr
      have hcase:(-early≤b - f∧b - f≤late) ∨ (-early≤b - f∧¬ b - f≤late) ∨ ¬ -early≤b - f:=by omega
      have hcase2:(0≤b - f∧b < t) ∨ (0≤b - f∧¬ b < t) ∨ ¬ 0≤b - f:=by omega
      rcases hcase with ⟨a1,a2⟩ | ⟨a1,a2⟩ | a1 <;> rcases hcase2 with ⟨i1,i2⟩ | ⟨i1,i2⟩ | i1 <;> (try (exfalso; omega))
      all_goals
        first
        | (have hno:¬ ((-early≤b - f∧b - f≤late) ∨ (0≤b - f∧b < t)):=by omega
           have HNO:Hid (belTo b early late l (k+1) = (B,N)):=by rw [Hid,HST.out,bel1_no hno]
           clear hno HST
           go_wp2
           go_roundw
           case rel=>exact ⟨k+1,B,N,by omega,by go_num,rfl,rfl,n1,n2,HNO,hbrA.out⟩
           case measure=>simp [intOf]; omega)
        | (have hyes:(-early≤b - f∧b - f≤late) ∨ (0≤b - f∧b < t):=by omega
           obtain ⟨M,hM⟩ : ∃ M,max (b - f) (-(b - f)) = M:=⟨_,rfl⟩
           have hM2:(M = b - f∧0≤b - f) ∨ (M = -(b - f)∧b - f < 0):=by omega
           have HM:=Lib.hid hM
           have HYES:=Lib.hid hyes
           clear hyes hM
           have hc3:B < 0 ∨ (¬ B < 0∧M < N) ∨ (¬ B < 0∧¬ M < N):=by omega
           rcases hc3 with j1 | ⟨j1,j2⟩ | ⟨j1,j2⟩
           · have HNW:Hid (belTo b early late l (k+1) = ((k:Int),M)):=by rw [Hid,HST.out,bel1_new HM.out HYES.out (.inl j1)]
             clear HST HYES
             rcases hM2 with ⟨m1,m2⟩ | ⟨m1,m2⟩ <;> (try (exfalso; omega))
             all_goals
               subst m1
               clear HM
               go_wp2
               go_roundw
               case rel=>exact ⟨k+1,k,_,by omega,by go_num,by go_num,by go_num,by omega,by omega,HNW,hbrA.out⟩
               case measure=>simp [intOf]; omega
           · have HNW:Hid (belTo b early late l (k+1) = ((k:Int),M)):=by rw [Hid,HST.out,bel1_new HM.out HYES.out (.inr j2)]
             clear HST HYES
             rcases hM2 with ⟨m1,m2⟩ | ⟨m1,m2⟩ <;> (try (exfalso; omega))
             all_goals
               subst m1
               clear HM
               go_wp2
               go_roundw
               case rel=>exact ⟨k+1,k,_,by omega,by go_num,by go_num,by go_num,by omega,by omega,HNW,hbrA.out⟩
               case measure=>simp [intOf]; omega
           · have HNW:Hid (belTo b early late l (k+1) = (B,N)):=by rw [Hid,HST.out,bel1_keep HM.out HYES.out (by omega)]
             clear HST HYES
             rcases hM2 with ⟨m1,m2⟩ | ⟨m1,m2⟩ <;> (try (exfalso; omega))
             all_goals
               subst m1
               clear HM
               go_wp2
               go_roundw
               case rel=>exact ⟨k+1,B,N,by omega,by go_num,rfl,rfl,n1,n2,HNW,hbrA.out⟩
               case measure=>simp [intOf]; omega)
    · obtain rfl:k = l.length:=by omega
      have HB:Hid (belN b early late l = B):=by rw [Hid,belN,hE.out]
      clear hE
      go_wp2
      go_ret
      exact ⟨by rw [HB.out]; rfl,hbr⟩
theorem plannedS (s:ShiftT) (b:Nat) (w:World) (hB:Blk w b 32 #[.int .i64 s.day,.int .i64 s.start,.int .i64 s.min]) (hs:ShiftOk s) :
  Calls Tryz.prog 13 #[.slice (some ⟨b,0,none⟩) 1 1,.int .i64 s.day] w fun e w'=>e = .returned (.int .i64 s.min)∧Below w.heap.size w w':=by
 obtain ⟨⟨s1,s2⟩,⟨s3,s4⟩,s5,s6⟩:=hs
 obtain ⟨sd,sa,sm⟩:=s
 simp only at s1 s2 s3 s4 s5 s6 hB
 have hbl:=hB.lt
 have hbel:=below_new w (.cells #[.int .i64 sd,.int .i64 sa,.int .i64 sm] 32)
 have z0:=hB.cell 0
 have z1:=hB.cell 1
 have z2:=hB.cell 2
 simp only [nqg,nqh,nqi] at z0 z1 z2
 go_enter Tryz.func13,Tryz.ntmps13
 go_wp2
 refine wp_loop_rounds 2 ?_
 rw [rounds_succ]
 go_wp2
 rw [rounds_succ]
 go_wp2
 go_ret
 exact ⟨rfl,hbel⟩
theorem cloneS (A:Option Addr) (c:Nat) (l:List IvT) (w:World) (hS:SliceOf encIv 2 w w.heap.size A l) (hl:l.length≤1024) :
  Calls Tryz.prog 93 #[.slice A l.length c] w fun e w'=>∃ A' c',e = .returned (.slice A' l.length c')∧Own encIv 2 34 w' w.heap.size (.slice A' l.length c') l∧Below w.heap.size w w':=by
 have q:=fun (w:World) (a:Option Addr) (n c n' c':Nat)=>Lib.run_eql_slice_nil (P:=Tryz.prog) w 79 _ a n c n' c' Tryz.underlying79
 rcases A with _ | a
 ·
  obtain rfl:l = []:=by
   by_cases h:l = []
   ·
    exact h
   ·
    obtain ⟨q,o,hA,_⟩:=hS h
    cases hA
  go_enter Tryz.func93,Tryz.ntmps93
  go_wp2
  go_ret
  exact ⟨none,0,rfl,Own.nil_ _ _,Below.refl _ _⟩
 ·
  have hown0:=Own.lit encIv_len w [] #[] 34 rfl (by simp) (Nat.le_refl _)
  have hS1:=hS.advA (.cells #[] 34)
  have hb0:=below_new w (.cells #[] 34)
  have HS:=Lib.hid hS1
  have HOWN:=Lib.hid hown0
  clear hS1 hown0
  go_enter Tryz.func93,Tryz.ntmps93
  go_wp2_with (at_builtin; go_loud (refine wpList_append_list (ys:=l) _ _ 79 c 16 _ infoIv Tryz.underlying79 HOWN.out HS.out encIv_len (by omega) rfl encIv_one (by simp; omega) (by omega) (by simp) (by rfl) (by rfl) (by rfl) (by rfl) (by rfl) ?_); intro v2 w2 hown2 hg2)
  rw [List.nil_append] at hown2
  obtain ⟨A2,c2,hv⟩:=hown2.slice encIv_len
  subst hv
  have hb2:=bel_only hb0 hg2 (fun g hg=>(HOWN.out.block_lt hg).1)
  clear hg2
  go_wp2
  go_ret
  exact ⟨A2,c2,rfl,hown2,hb2⟩
end
end Go.Proofs.YtopekilofdadnaaGreatDoor
