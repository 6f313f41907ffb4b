/- Joined texts: TgE TgK TgP3. Conditions: as stated. -/
import Derived.Deep.QuietTactic
import Derived.BigQuiet
import Derived.WalkKit
import Derived.Test.YtopekilofdadnaaGreatDoorJTvN
import Derived.Test.YtopekilofdadnaaGreatDoorJLeaf
namespace Go.Proofs.YtopekilofdadnaaGreatDoor
open Go.RowKit
section
set_option maxHeartbeats 2000000
set_option maxRecDepth 100000
def SpanPost (z:ZoneT) (s:ShiftT) (w:World) (e:Ending) (w' : World) : Prop :=
 Below w.heap.size w w'∧((120968640 < begN z s+s.min∧e = .returned (.tuple #[.agg #[.int .i64 0,.int .i64 0],.int .i64 2])) ∨ (begN z s+s.min≤120968640∧e = .returned (.tuple #[.agg #[.int .i64 (begN z s),.int .i64 (begN z s+s.min)],.int .i64 0])))
theorem spanE (z:ZoneM) (s:ShiftT) (w:World) (hz:ZoneOk z.t) (hS:z.In w) (hs:ShiftOk s) : Calls Tryz.prog 9 #[z.val,.agg #[.int .i64 s.day,.int .i64 s.start,.int .i64 s.min]] w (SpanPost z.t s w):=by
 obtain ⟨⟨s1,s2⟩,⟨s3,s4⟩,s5,s6⟩:=hs
 have hbd:=firstN_bd hz (s.day * 1440+s.start)
 have HB:Hid (begN z.t s = firstN z.t (s.day * 1440+s.start)):=rfl
 obtain ⟨zo,A,c,l⟩:=z
 obtain ⟨sd,sa,sm⟩:=s
 have s1:0≤sd:=s1
 have s2:sd≤84005:=s2
 have s3:0≤sa:=s3
 have s4:sa≤1439:=s4
 have s5:1≤sm:=s5
 have s6:sm≤1440:=s6
 have HZ:=Lib.hid hz
 have hS1:=(SliceOf.advA (SliceOf.advA (SliceOf.advA (show SliceOf encCh 2 w w.heap.size A l from hS) (.cells #[.int .i64 zo,.slice A l.length c] 27)) (.cells #[.int .i64 sd,.int .i64 sa,.int .i64 sm] 32)) (.cells #[.int .i64 0,.int .i64 0] 34))
 have hB0:=((Blk.new w 27 #[.int .i64 zo,.slice A l.length c]).alloc (.cells #[.int .i64 sd,.int .i64 sa,.int .i64 sm] 32)).alloc (.cells #[.int .i64 0,.int .i64 0] 34)
 have hB1:=(Blk.newAt (w:=w.alloc (.cells #[.int .i64 zo,.slice A l.length c] 27)) (g:=w.heap.size+1) 32 #[.int .i64 sd,.int .i64 sa,.int .i64 sm] (by simp)).alloc (.cells #[.int .i64 0,.int .i64 0] 34)
 have hB2:=Blk.newAt (w:=(w.alloc (.cells #[.int .i64 zo,.slice A l.length c] 27)).alloc (.cells #[.int .i64 sd,.int .i64 sa,.int .i64 sm] 32)) (g:=w.heap.size+1+1) 34 #[.int .i64 0,.int .i64 0] (by simp)
 have hbel0:=bel_alloc (bel_alloc (below_new w (.cells #[.int .i64 zo,.slice A l.length c] 27)) (.cells #[.int .i64 sd,.int .i64 sa,.int .i64 sm] 32)) (.cells #[.int .i64 0,.int .i64 0] 34)
 generalize hW:((w.alloc (.cells #[.int .i64 zo,.slice A l.length c] 27)).alloc (.cells #[.int .i64 sd,.int .i64 sa,.int .i64 sm] 32)).alloc (.cells #[.int .i64 0,.int .i64 0] 34) = W at hS1 hB0 hB1 hB2 hbel0
 have HW:=Lib.hid hW
 clear hz hS hW
 show Calls Tryz.prog 9 #[.agg #[.int .i64 zo,.slice A l.length c],.agg #[.int .i64 sd,.int .i64 sa,.int .i64 sm]] w _
 go_enter Tryz.func9,Tryz.ntmps9
 go_wp2_with fail
 rw [HW.out]
 refine (zvalidC ⟨zo,A,c,l⟩ _ HZ.out hS1).mono ?_
 rintro e w1 ⟨rfl,hb1⟩
 have hS2:=hS1.adv hb1
 have hC0:=hB0.adv hb1
 have hC1:=hB1.adv hb1
 have hC2:=hB2.adv hb1
 have hbel:=bel_adv hbel0 hb1
 have z0:=hC0.cell 0
 have z1:=hC0.cell 1
 simp only [nqg,nqh,nqi] at z0 z1
 have t0:=hC1.cell 0
 have t1:=hC1.cell 1
 have t2:=hC1.cell 2
 simp only [nqg,nqh,nqi] at t0 t1 t2
 clear hb1 hB0 hB1 hB2 hbel0 hS1 hC0
 go_wp2_with fail
 refine (firstC2 ⟨zo,A,c,l⟩ _ _ HZ.out hS2 (by omega) (by omega)).mono ?_
 rintro e w2 ⟨rfl,hb2⟩
 have hD1:=hC1.adv hb2
 have hD2:=hC2.adv hb2
 have hbel2:=bel_adv hbel hb2
 have u0:=hD1.cell 0
 have u1:=hD1.cell 1
 have u2:=hD1.cell 2
 simp only [nqg,nqh,nqi] at u0 u1 u2
 have v0:=hD2.cell 0
 have v1:=hD2.cell 1
 simp only [nqg,nqh,nqi] at v0 v1
 have f0:=hD2.frozen 0
 have f1:=hD2.frozen 1
 have hbs2:=hbel2.size
 clear hb2 hC1 hC2 hbel t0 t1 t2 z0 z1 hS2
 have HB:Hid (begN (ZoneM.mk zo A c l).t ⟨sd,sa,sm⟩ = firstN (ZoneM.mk zo A c l).t (sd * 1440+sa)):=HB
 have hbd:0≤firstN (ZoneM.mk zo A c l).t (sd * 1440+sa)∧firstN (ZoneM.mk zo A c l).t (sd * 1440+sa)≤120968640:=hbd
 generalize firstN (ZoneM.mk zo A c l).t (sd * 1440+sa) = F at hbd HB ⊢
 obtain ⟨hb0,hb1⟩:=hbd
 have HD2:=Lib.hid hD2
 clear hD2
 by_cases hF:120968640 < F+sm
 ·
  go_wp2
  have q:=(HD2.out.set_ 0 (.int .i64 0)).set_ 1 (.int .i64 0)
  have q0:=q.cell 0
  have q1:=q.cell 1
  refine bodyPost_ret (v:=.tuple #[.agg #[.int .i64 0,.int .i64 0],.int .i64 2]) (by simp [results,Tryz.results9,go_sem,q0,q1]) rfl ⟨bel_set (bel_set hbel2 (by omega) 0 _) (by omega) 1 _,.inl ⟨by rw [HB.out]; exact hF,rfl⟩⟩
 ·
  go_wp2
  have q:=(HD2.out.set_ 0 (.int .i64 F)).set_ 1 (.int .i64 (F+sm))
  have q0:=q.cell 0
  have q1:=q.cell 1
  refine bodyPost_ret (v:=.tuple #[.agg #[.int .i64 F,.int .i64 (F+sm)],.int .i64 0]) (by simp [results,Tryz.results9,go_sem,q0,q1]) rfl ⟨bel_set (bel_set hbel2 (by omega) 0 _) (by omega) 1 _,.inr ⟨by rw [HB.out]; show F+sm≤_; omega,by rw [HB.out]⟩⟩
def SpansPost (z:ZoneT) (plan:List ShiftT) (w:World) (e:Ending) (w' : World) : Prop :=
 Below w.heap.size w w'∧((spErr z none plan ≠ 0∧e = .returned (.tuple #[.slice none 0 0,.int .i64 (spErr z none plan)])) ∨
  (spErr z none plan = 0∧∃ A c,e = .returned (.tuple #[.slice A plan.length c,.int .i64 0])∧SliceOf encIv 2 w' w'.heap.size A (plan.map (spOf z))))
theorem spErr_cons (z:ZoneT) (p:Option Int) (s:ShiftT) (r:List ShiftT) : spErr z p (s :: r) = if 120968640 < begN z s+s.min then 2 else if begN z s < p.getD 0 then 1 else spErr z (some (begN z s+s.min)) r:=rfl
theorem spansE (z:ZoneM) (B:Option Addr) (d:Nat) (plan:List ShiftT) (w:World) (hz:ZoneOk z.t) (hS:z.In w) (hP:SliceOf encSf 3 w w.heap.size B plan) (hp : ∀ s ∈ plan,ShiftOk s) (hl:plan.length≤1024) :
  Calls Tryz.prog 37 #[z.val,.slice B plan.length d] w (SpansPost z.t plan w):=by
 have HN:=Lib.hid (fun s:ShiftT=>firstN_bd hz (s.day * 1440+s.start))
 obtain ⟨zo,A,c,l⟩:=z
 have HZ:=Lib.hid hz
 have HP:=Lib.hid hp
 have hS1:=SliceOf.advA (show SliceOf encCh 2 w w.heap.size A l from hS) (.cells #[.int .i64 zo,.slice A l.length c] 27)
 have hP1:=hP.advA (.cells #[.int .i64 zo,.slice A l.length c] 27)
 have hB0:=Blk.new w 27 #[.int .i64 zo,.slice A l.length c]
 have hbel0:=below_new w (.cells #[.int .i64 zo,.slice A l.length c] 27)
 clear hz hS hP hp
 show Calls Tryz.prog 37 #[.agg #[.int .i64 zo,.slice A l.length c],.slice B plan.length d] w _
 go_enter Tryz.func37,Tryz.ntmps37
 go_wp2_with fail
 refine (zvalidC ⟨zo,A,c,l⟩ _ HZ.out hS1).mono ?_
 rintro e w1 ⟨rfl,hb1⟩
 have hC0:=hB0.adv hb1
 have hbel:=bel_adv hbel0 hb1
 have hS2:=hS1.adv hb1
 have hP2:=hP1.adv hb1
 have hbs0:=hb1.size
 simp only [World.size_alloc] at hbs0
 clear hb1 hB0 hbel0 hS1 hP1
 go_wp2
 go_loopw [7,22] (fun r i wr=>∃ k:Nat,k≤plan.length∧i = .int .i64 k∧Own encIv 2 34 wr w1.heap.size r ((plan.take k).map (spOf (ZoneM.mk zo A c l).t))∧Hid (spErr (ZoneM.mk zo A c l).t none plan = spErr (ZoneM.mk zo A c l).t (if k = 0 then none else some (spOf (ZoneM.mk zo A c l).t (plan.getD (k - 1) ⟨0,0,0⟩)).t) (plan.drop k))∧Below w1.heap.size w1 wr) (fun _ i _=>plan.length - (intOf i).toNat)
 case atStart=>exact ⟨0,by omega,rfl,by simpa using Own.nil_ _ _,rfl,Below.refl _ _⟩
 case round =>
  obtain ⟨k,hk,rfl,hown,hE,hbr⟩:=hrel
  have hbs:=hbr.size
  have hC1:=hC0.adv hbr
  have hC1l:=hC1.lt
  have z0:=hC1.cell 0
  have z1:=hC1.cell 1
  simp only [nqg,nqh,nqi] at z0 z1
  by_cases hlt:k < plan.length
  ·
   have hx:SliceOf encSf 3 wr w1.heap.size B plan:=hP2.below hbr
   have hs:=HP.out _ (List.getElem_mem hlt)
   have HSO:=Lib.hid hs
   obtain ⟨⟨s1,s2⟩,⟨s3,s4⟩,s5,s6⟩:=hs
   obtain ⟨b,off,rfl,hb,hc⟩:=hx.at_ hlt
   have c0:=hc 0 _ rfl
   have c1:=hc 1 _ rfl
   have c2:=hc 2 _ rfl
   simp only [Nat.add_zero] at c0
   have hbw:b < wr.heap.size:=by omega
   have hki:(k:Int) < (plan.length:Int):=by omega
   have HD:=Lib.hid (drop_head plan k hlt)
   have HT:Hid (plan.take (k+1) = plan.take k++[plan[k]]):=by rw [Hid,List.take_succ_eq_append_getElem hlt]
   have hgd:plan.getD k ⟨0,0,0⟩ = plan[k]:=by rw [List.getD_eq_getElem?_getD,List.getElem?_eq_getElem hlt]; rfl
   have HGD:=Lib.hid hgd
   have hS3:=SliceOf.advA (hS2.adv hbr) (.cells #[.int .i64 plan[k].day,.int .i64 plan[k].start,.int .i64 plan[k].min] 32)
   have hbr1:=bel_alloc hbr (.cells #[.int .i64 plan[k].day,.int .i64 plan[k].start,.int .i64 plan[k].min] 32)
   have hown1:=hown.alloc (.cells #[.int .i64 plan[k].day,.int .i64 plan[k].start,.int .i64 plan[k].min] 32)
   have hbd:=HN.out plan[k]
   have HBG:Hid (begN (ZoneM.mk zo A c l).t plan[k] = firstN (ZoneM.mk zo A c l).t (plan[k].day * 1440+plan[k].start)):=rfl
   clear hc hx hgd
   go_wp2_with fail
   refine (spanE ⟨zo,A,c,l⟩ plan[k] _ HZ.out hS3 HSO.out).mono ?_
   rintro e w2 ⟨hb2,hcase⟩
   have hown2:=hown1.adv hb2
   have hbr2:=bel_adv hbr1 hb2
   clear hbr1 hown1 hb2 hS3
   rcases hcase with ⟨hF,rfl⟩ | ⟨hF,rfl⟩
   ·
    have hR:spErr (ZoneM.mk zo A c l).t none plan = 2:=by rw [hE.out,HD.out,spErr_cons,if_pos hF]
    have HR:=Lib.hid hR
    clear hR hF hbd
    go_wp2
    go_ret2
    exact ⟨bel_adv hbel (bel_alloc hbr2 _),.inl ⟨by rw [HR.out]; omega,by rw [HR.out]; rfl⟩⟩
   ·
    have hbd:0≤begN (ZoneM.mk zo A c l).t plan[k]:=hbd.1
    have HI:Hid (spOf (ZoneM.mk zo A c l).t plan[k] = ⟨begN (ZoneM.mk zo A c l).t plan[k],begN (ZoneM.mk zo A c l).t plan[k]+plan[k].min⟩):=rfl
    have hE2:spErr (ZoneM.mk zo A c l).t none plan = if begN (ZoneM.mk zo A c l).t plan[k] < ((if k = 0 then none else some (spOf (ZoneM.mk zo A c l).t (plan.getD (k - 1) ⟨0,0,0⟩)).t:Option Int)).getD 0 then 1 else spErr (ZoneM.mk zo A c l).t (some (spOf (ZoneM.mk zo A c l).t plan[k]).t) (plan.drop (k+1)):=by
     rw [hE.out,HD.out,spErr_cons,if_neg (by omega)]
     rfl
    have HE2:=Lib.hid hE2
    have HMAP:Hid ((plan.take (k+1)).map (spOf (ZoneM.mk zo A c l).t) = (plan.take k).map (spOf (ZoneM.mk zo A c l).t)++[spOf (ZoneM.mk zo A c l).t plan[k]]):=by rw [Hid,HT.out,List.map_append]; rfl
    clear hE hE2 HBG HT
    generalize begN (ZoneM.mk zo A c l).t plan[k] = F at hF hbd HI HE2 ⊢
    generalize hM:plan[k].min = M at *
    have hW2:=hbr2.size
    have hlen:((plan.take k).map (spOf (ZoneM.mk zo A c l).t)).length = k:=by simp; omega
    obtain ⟨Ar,cr,hv,hSr,hAr,_⟩:=hown2.form encIv_len
    have HLEN:=Lib.hid hlen
    have hSr1:SliceOf encIv 2 (w2.alloc (.cells #[.int .i64 F,.int .i64 (F+M)] 34)) w2.heap.size Ar ((plan.take k).map (spOf (ZoneM.mk zo A c l).t)):=hSr.below (below_new _ _)
    rw [hlen] at hv
    subst hv
    clear hM hlen hSr
    have hownA:=Lib.hid (hown2.alloc (.cells #[.int .i64 F,.int .i64 (F+M)] 34))
    have hbrA:=Lib.hid (bel_alloc hbr2 (.cells #[.int .i64 F,.int .i64 (F+M)] 34))
    rcases k with _ | m
    ·
     have HE3:Hid (spErr (ZoneM.mk zo A c l).t none plan = spErr (ZoneM.mk zo A c l).t (some (spOf (ZoneM.mk zo A c l).t (plan.getD 0 ⟨0,0,0⟩)).t) (plan.drop 1)):=by
      rw [Hid,HE2.out,if_neg (by simp; omega),HGD.out]
     clear HE2 hSr1 hown2
     go_wp2
     go_quiet (fail)
     go_wp2_with (at_builtin; (refine wpList_append_one _ _ 79 ⟨F,F+M⟩ _ 16 _ infoIv Tryz.underlying79 (hownA.out.drewN _) encIv_len (by omega) rfl (encIv_one _) (by rw [HLEN.out]; omega) (by omega) (by simp; omega) (by rfl) (by rfl) (by rfl) (by rfl) (by simp) (by rfl) ?_); intro v2 w6 hown6 hg6)
     go_roundw
     case rel =>
      refine ⟨1,by omega,by go_num,?_,HE3,bel_only (below_drewN hbrA.out _) hg6 (fun g hg=>by have:=(hownA.out.block_lt hg).1; omega)⟩
      rw [HMAP.out,HI.out]
      exact hown6
     case measure=>simp [intOf]; omega
    ·
     obtain ⟨br,ofr,rfl,hbr9,hcr⟩:=hSr1.at_ (i:=m) (by rw [HLEN.out]; omega)
     have e1:=hcr 1 _ rfl
     have hgm : ((plan.take (m + 1)).map (spOf (ZoneM.mk zo A c l).t))[m]'(by rw [HLEN.out]; omega) = spOf (ZoneM.mk zo A c l).t (plan.getD m ⟨0, 0, 0⟩) := by
      rw [List.getElem_map,List.getElem_take,List.getD_eq_getElem?_getD,List.getElem?_eq_getElem (by omega)]; rfl
     rw [hgm] at e1
     have hpl:(0:Int)≤begN (ZoneM.mk zo A c l).t (plan.getD m ⟨0,0,0⟩):=(HN.out _).1
     have hmi:(m:Int) < ((m+1:Nat) : Int):=by omega
     have hp:decide ((0:Int) < (m:Int)+1) = true:=by rw [decide_eq_true_eq]; omega
     have hwr:IntKind.i64.wrap ((m:Int)+1 - 1) = (m:Int):=by rw [IntKind.wrap_i64]; omega
     generalize hpt:(spOf (ZoneM.mk zo A c l).t (plan.getD m ⟨0,0,0⟩)).t = T at e1
     have HPT:=Lib.hid hpt
     clear hpt hgm hcr hSr1 hown2 hpl
     by_cases hc:F < T
     ·
      have hR:spErr (ZoneM.mk zo A c l).t none plan = 1:=by
       rw [HE2.out,if_pos (by rw [if_neg (by omega),Nat.add_sub_cancel,HPT.out]; exact hc)]
      have HR:=Lib.hid hR
      clear hR HE2
      go_wp2
      go_quiet (fail)
      go_wp2
      go_ret2
      exact ⟨bel_adv hbel (below_drewN hbrA.out _),.inl ⟨by rw [HR.out]; omega,by rw [HR.out]; rfl⟩⟩
     ·
      have HE3:Hid (spErr (ZoneM.mk zo A c l).t none plan = spErr (ZoneM.mk zo A c l).t (some (spOf (ZoneM.mk zo A c l).t (plan.getD (m+1) ⟨0,0,0⟩)).t) (plan.drop (m+2))):=by
       rw [Hid,HE2.out,if_neg (by rw [if_neg (by omega),Nat.add_sub_cancel,HPT.out]; exact hc),HGD.out]
      clear HE2
      go_wp2
      go_quiet (fail)
      go_wp2_with (at_builtin; (refine wpList_append_one _ _ 79 ⟨F,F+M⟩ _ 16 _ infoIv Tryz.underlying79 (hownA.out.drewN _) encIv_len (by omega) rfl (encIv_one _) (by rw [HLEN.out]; omega) (by omega) (by simp; omega) (by rfl) (by rfl) (by rfl) (by rfl) (by simp) (by rfl) ?_); intro v2 w6 hown6 hg6)
      go_roundw
      case rel =>
       refine ⟨m+2,by omega,by go_num,?_,HE3,bel_only (below_drewN hbrA.out _) hg6 (fun g hg=>by have:=(hownA.out.block_lt hg).1; omega)⟩
       rw [HMAP.out,HI.out]
       exact hown6
      case measure=>simp [intOf]; omega
  ·
   obtain rfl:k = plan.length:=by omega
   have hE0:spErr (ZoneM.mk zo A c l).t none plan = 0:=by rw [hE.out,List.drop_length,spErr]
   have HE0:=Lib.hid hE0
   rw [List.take_length] at hown
   obtain ⟨Ar,cr,hv,hSr,hAr,_⟩:=hown.form encIv_len
   rw [List.length_map] at hv
   subst hv
   clear hE hE0 hown
   go_wp2
   go_ret2
   exact ⟨bel_adv hbel hbr,.inr ⟨HE0.out,Ar,cr,rfl,hSr⟩⟩
theorem planE (z:ZoneM) (B:Option Addr) (d:Nat) (plan:List ShiftT) (w:World) (hz:ZoneOk z.t) (hS:z.In w) (hP:SliceOf encSf 3 w w.heap.size B plan) (hp : ∀ s ∈ plan,ShiftOk s) (hl:plan.length≤1024) :
  Calls Tryz.prog 18 #[z.val,.slice B plan.length d] w fun e w'=>e = .returned (.int .i64 (spErr z.t none plan))∧Below w.heap.size w w':=by
 obtain ⟨zo,A,c,l⟩:=z
 have HZ:=Lib.hid hz
 have HP:=Lib.hid hp
 have hS1:=SliceOf.advA (show SliceOf encCh 2 w w.heap.size A l from hS) (.cells #[.int .i64 zo,.slice A l.length c] 27)
 have hP1:=hP.advA (.cells #[.int .i64 zo,.slice A l.length c] 27)
 clear hz hS hP hp
 show Calls Tryz.prog 18 #[.agg #[.int .i64 zo,.slice A l.length c],.slice B plan.length d] w _
 go_enter Tryz.func18,Tryz.ntmps18
 go_wp2_with fail
 refine (spansE ⟨zo,A,c,l⟩ B d plan _ HZ.out hS1 hP1 HP.out hl).mono ?_
 rintro e w1 ⟨hb1,hcase⟩
 have hbel:=bel_adv (below_new w (.cells #[.int .i64 zo,.slice A l.length c] 27)) hb1
 clear hb1
 rcases hcase with ⟨h0,rfl⟩ | ⟨h0,A1,c1,rfl,_⟩
 ·
  clear h0
  go_wp2
  go_ret
  exact ⟨rfl,hbel⟩
 ·
  have H0:=Lib.hid h0
  clear h0
  go_wp2
  go_ret
  exact ⟨by rw [H0.out]; rfl,hbel⟩
end
end Go.Proofs.YtopekilofdadnaaGreatDoor
namespace Go.Proofs.YtopekilofdadnaaGreatDoor
open Go.RowKit
def lensL : List Int:=[31,28,31,30,31,30,31,31,30,31,30,31]
def Lens (w:World) : Prop:=0 < w.heap.size∧∀ i n,lensL[i]? = some n→w.cell? ⟨0,i,none⟩ = some (.int .i64 n)
theorem Lens.below {w w' : World} {B:Nat} (h:Lens w) (hB:0 < B) (hb:Below B w w') : Lens w' :=
 ⟨Nat.lt_of_lt_of_le h.1 hb.size,fun i n hi=>(hb.cell (p:=⟨0,i,none⟩) hB).trans (h.2 i n hi)⟩
theorem Lens.adv {w w' : World} (h:Lens w) (hb:Below w.heap.size w w') : Lens w':=h.below h.1 hb
theorem Lens.alloc {w:World} (h:Lens w) (o:Obj) : Lens (w.alloc o):=h.adv (below_new w o)
theorem Lens.drewN {w:World} (h:Lens w) (n:Nat) : Lens (w.drewN n):=h
def leapB (y:Int) : Bool:=decide (y % 4 = 0) && (!decide (y % 100 = 0) || decide (y % 400 = 0))
def leapI (y:Int) : Int:=if leapB y = true then 1 else 0
def leapsN (y:Int) : Int:=y / 4 - y / 100+y / 400
def beginN (y:Int) : Int:=365 * (y - 1970)+leapsN (y - 1) - leapsN 1969
def lenN (y m : Int) : Int:=if m = 2∧leapB y = true then 29 else lensL.getD (m - 1).toNat 0
theorem leapI_01 (y:Int) : leapI y = 0 ∨ leapI y = 1:=by unfold leapI; split <;> simp
theorem leaps_succ (y:Int) : leapsN (y+1) = leapsN y+leapI (y+1):=by
 unfold leapsN leapI leapB
 simp only [Bool.and_eq_true,Bool.or_eq_true,Bool.not_eq_true',decide_eq_true_eq,decide_eq_false_iff_not]
 split <;> omega
theorem begin_succ (y:Int) : beginN (y+1) = beginN y+365+leapI y:=by
 have h1:=leaps_succ (y - 1)
 rw [show y - 1+1 = y by omega] at h1
 unfold beginN
 rw [show y+1 - 1 = y by omega,h1]
 omega
theorem begin_guess (d:Int) (h0:0≤d) (h1:d≤84005) : beginN (1970+d / 366)≤d:=by
 unfold beginN leapsN; omega
theorem begin_bd (y:Int) (h0:1970≤y) (h1:y≤2300) : 0≤beginN y∧beginN y≤200000:=by
 unfold beginN leapsN; omega
theorem begin_top : beginN 2200 = 84006:=by decide
def cumN (y m : Int) : Int:=if m = 1 then 0 else if m = 2 then 31 else ([0,0,59,90,120,151,181,212,243,273,304,334].getD (m - 1).toNat 0)+leapI y
theorem month_cases (m:Int) (h1:1≤m) (h2:m≤12) : m = 1 ∨ m = 2 ∨ m = 3 ∨ m = 4 ∨ m = 5 ∨ m = 6 ∨ m = 7 ∨ m = 8 ∨ m = 9 ∨ m = 10 ∨ m = 11 ∨ m = 12:=by omega
theorem cum_succ (y m : Int) (h1:1≤m) (h2:m < 12) : cumN y (m+1) = cumN y m+lenN y m:=by
 rcases month_cases m h1 (by omega) with rfl | rfl | rfl | rfl | rfl | rfl | rfl | rfl | rfl | rfl | rfl | rfl <;> simp [cumN,lenN,lensL,leapI] <;> (try split) <;> omega
theorem cum_last (y:Int) : cumN y 12+lenN y 12 = 365+leapI y:=by simp [cumN,lenN,lensL]; omega
theorem len_bd (y m : Int) (h1:1≤m) (h2:m≤12) : 28≤lenN y m∧lenN y m≤31:=by
 rcases month_cases m h1 h2 with rfl | rfl | rfl | rfl | rfl | rfl | rfl | rfl | rfl | rfl | rfl | rfl <;> simp [lenN,lensL]
 split <;> omega
section
set_option maxHeartbeats 1000000
theorem leapK (y:Int) (w:World) (h0:0≤y) (h1:y≤3000) : Calls Tryz.prog 241 #[.int .i64 y] w fun e w'=>e = .returned (.bool (leapB y))∧w = w':=by
 have hb:leapB y = (decide (y % 4 = 0) && (!decide (y % 100 = 0) || decide (y % 400 = 0))):=rfl
 have HB:=Lib.hid hb; clear hb
 by_cases h4:y % 4 = 0
 ·
  by_cases h100:y % 100 = 0
  ·
   have q4:(y % 4 == 0) = true:=by simpa using h4
   have q100:(y % 100 != 0) = false:=by simpa using h100
   by_cases h400:y % 400 = 0
   ·
    have hq:leapB y = true:=by rw [HB.out]; simp [h4,h400]
    have q400:(y % 400 == 0) = true:=by simpa using h400
    have HQ:=Lib.hid hq
    clear hq h4 h100 h400
    go_enter Tryz.func241,Tryz.ntmps241
    go_wp2
    go_ret
    exact ⟨by rw [HQ.out]; rfl,rfl⟩
   ·
    have hq:leapB y = false:=by rw [HB.out]; simp [h100,h400]
    have q400:(y % 400 == 0) = false:=by simpa using h400
    have HQ:=Lib.hid hq
    clear hq h4 h100 h400
    go_enter Tryz.func241,Tryz.ntmps241
    go_wp2
    go_ret
    exact ⟨by rw [HQ.out]; rfl,rfl⟩
  ·
   have q4:(y % 4 == 0) = true:=by simpa using h4
   have q100:(y % 100 != 0) = true:=by simpa using h100
   have hq:leapB y = true:=by rw [HB.out]; simp [h4,h100]
   have HQ:=Lib.hid hq
   clear hq h4 h100
   go_enter Tryz.func241,Tryz.ntmps241
   go_wp2
   go_ret
   exact ⟨by rw [HQ.out]; rfl,rfl⟩
 ·
  have q4:(y % 4 == 0) = false:=by simpa using h4
  have hq:leapB y = false:=by rw [HB.out]; simp [h4]
  have HQ:=Lib.hid hq
  clear hq h4
  go_enter Tryz.func241,Tryz.ntmps241
  go_wp2
  go_ret
  exact ⟨by rw [HQ.out]; rfl,rfl⟩
theorem leapsK (y:Int) (w:World) (h0:0≤y) (h1:y≤3000) : Calls Tryz.prog 240 #[.int .i64 y] w fun e w'=>e = .returned (.int .i64 (leapsN y))∧w = w':=by
 go_enter Tryz.func240,Tryz.ntmps240
 go_wp2
 go_ret
 exact ⟨rfl,rfl⟩
theorem beginK (y:Int) (w:World) (h0:1970≤y) (h1:y≤2300) : Calls Tryz.prog 227 #[.int .i64 y] w fun e w'=>e = .returned (.int .i64 (beginN y))∧w = w':=by
 have a1:leapsN (y - 1)≤1000:=by unfold leapsN; omega
 have a2:0≤leapsN (y - 1):=by unfold leapsN; omega
 have a3:leapsN 1969≤1000:=by decide
 have a4:0≤leapsN 1969:=by decide
 go_enter Tryz.func227,Tryz.ntmps227
 go_wp2_with fail
 refine (leapsK _ _ (by omega) (by omega)).mono ?_
 rintro e w' ⟨rfl,rfl⟩
 go_wp2_with fail
 refine (leapsK _ _ (by omega) (by omega)).mono ?_
 rintro e w' ⟨rfl,rfl⟩
 go_wp2
 go_ret
 exact ⟨rfl,rfl⟩
theorem validK (d:Int) (w:World) (h0:0≤d) (h1:d≤84005) : Calls Tryz.prog 225 #[.int .i64 d] w fun e w'=>e = .returned (.bool true)∧w = w':=by
 go_enter Tryz.func225,Tryz.ntmps225
 go_wp2
 go_ret
 exact ⟨by simp,rfl⟩
theorem validK_no (d:Int) (w:World) (h:d < 0 ∨ 84005 < d) : Calls Tryz.prog 225 #[.int .i64 d] w fun e w'=>e = .returned (.bool false)∧w = w':=by
 by_cases h0:0≤d
 ·
  have h1:¬ d≤84005:=by omega
  clear h
  go_enter Tryz.func225,Tryz.ntmps225
  go_wp2
  go_ret
  exact ⟨by simp,rfl⟩
 ·
  clear h
  go_enter Tryz.func225,Tryz.ntmps225
  go_wp2
  go_ret
  exact ⟨by simp,rfl⟩
def YearOf (d:Int) (w:World) (e:Ending) (w' : World) : Prop:=∃ y : Int,e = .returned (.int .i64 y)∧1970≤y∧y≤2199∧beginN y≤d∧d < beginN (y+1)∧w = w'
theorem yearOfK (d:Int) (w:World) (h0:0≤d) (h1:d≤84005) : Calls Tryz.prog 226 #[.int .i64 d] w (YearOf d w):=by
 have g0:=begin_guess d h0 h1
 go_enter Tryz.func226,Tryz.ntmps226
 go_wp2
 go_loop [3] (fun t=>∃ y:Int,1970≤y∧y≤2199∧beginN y≤d∧t = .int .i64 y) (fun t=>(2200 - intOf t).toNat)
 case atStart=>exact ⟨_,by omega,by omega,g0,rfl⟩
 case round =>
  obtain ⟨y,hy1,hy2,hy3,rfl⟩:=hrel
  clear g0
  by_cases hc:beginN (y+1)≤d
  ·
   have hy4:y < 2199:=by
    by_cases h:y < 2199
    ·
     exact h
    ·
     have:y+1 = 2200:=by omega
     rw [this,begin_top] at hc
     omega
   go_wp2_with fail
   refine (beginK _ _ (by omega) (by omega)).mono ?_
   rintro e w' ⟨rfl,rfl⟩
   go_wp2
   go_round
   case rel=>exact ⟨y+1,by omega,by omega,hc,rfl⟩
   case measure=>simp [intOf]; omega
  ·
   go_wp2_with fail
   refine (beginK _ _ (by omega) (by omega)).mono ?_
   rintro e w' ⟨rfl,rfl⟩
   go_wp2
   go_ret
   exact ⟨y,rfl,hy1,hy2,hy3,by omega,rfl⟩
theorem lengthK (y m : Int) (w:World) (h0:0≤y) (h1:y≤3000) (m1:1≤m) (m2:m≤12) (hL:Lens w) : Calls Tryz.prog 228 #[.int .i64 y,.int .i64 m] w fun e w'=>e = .returned (.int .i64 (lenN y m))∧w = w':=by
 obtain ⟨j,hj⟩:=Int.eq_ofNat_of_zero_le (show 0≤m - 1 by omega)
 have hj2:j < 12:=by omega
 have hlj:j < lensL.length:=hj2
 have hx:=hL.2 j _ (List.getElem?_eq_getElem hlj)
 have hg:lensL.getD (m - 1).toNat 0 = lensL[j]:=by
  rw [hj,Int.toNat_natCast,List.getD_eq_getElem?_getD,List.getElem?_eq_getElem hlj]; rfl
 obtain rfl:m = (j:Int)+1:=by omega
 have HG:=Lib.hid hg
 clear hg hL
 by_cases hm:j = 1
 ·
  subst hm
  cases hb:leapB y
  ·
   have hn:lenN y ((1:Nat)+1:Int) = lensL[1]:=by unfold lenN; rw [hb,HG.out]; simp
   have HN:=Lib.hid hn
   have HB:=Lib.hid hb
   clear hn hb
   go_enter Tryz.func228,Tryz.ntmps228
   go_wp2_with fail
   refine (leapK _ _ (by omega) (by omega)).mono ?_
   rintro e w' ⟨rfl,rfl⟩
   have hb:=HB.out
   go_wp2
   go_ret
   exact ⟨by rw [HN.out]; rfl,rfl⟩
  ·
   have hn:lenN y ((1:Nat)+1:Int) = 29:=by unfold lenN; rw [hb]; simp
   have HN:=Lib.hid hn
   have HB:=Lib.hid hb
   clear hn hb
   go_enter Tryz.func228,Tryz.ntmps228
   go_wp2_with fail
   refine (leapK _ _ (by omega) (by omega)).mono ?_
   rintro e w' ⟨rfl,rfl⟩
   have hb:=HB.out
   go_wp2
   go_ret
   exact ⟨by rw [HN.out]; rfl,rfl⟩
 ·
  have hm2:((j:Int)+1 == 2) = false:=by simp; omega
  have hn:lenN y ((j:Int)+1) = lensL[j]:=by unfold lenN; rw [HG.out,if_neg (by omega)]
  have HN:=Lib.hid hn
  clear hn hm
  go_enter Tryz.func228,Tryz.ntmps228
  go_wp2
  go_ret
  exact ⟨by rw [HN.out]; rfl,rfl⟩
def DateP (w:World) (e:Ending) (w' : World) : Prop:=∃ y m d : Int,e = .returned (.tuple #[.int .i64 y,.int .i64 m,.int .i64 d,.bool true])∧1970≤y∧y≤2199∧w = w'
theorem dateK (d:Int) (w:World) (h0:0≤d) (h1:d≤84005) (hL:Lens w) : Calls Tryz.prog 195 #[.int .i64 d] w (DateP w):=by
 go_enter Tryz.func195,Tryz.ntmps195
 go_wp2_with fail
 refine (validK _ _ (by omega) (by omega)).mono ?_
 rintro e w' ⟨rfl,rfl⟩
 go_wp2_with fail
 refine (yearOfK _ _ (by omega) (by omega)).mono ?_
 rintro e w' ⟨y,rfl,y1,y2,b1,b2,rfl⟩
 go_wp2_with fail
 refine (beginK _ _ (by omega) (by omega)).mono ?_
 rintro e w' ⟨rfl,rfl⟩
 have hbd:=begin_bd y y1 (by omega)
 go_wp2
 have hs:=begin_succ y
 have hl:=leapI_01 y
 have hB:d - beginN y < 365+leapI y:=by omega
 clear hs b2
 go_loop [7,8] (fun r k=>∃ m:Int,1≤m∧m≤12∧k = .int .i64 m∧0≤d - beginN y - cumN y m∧d - beginN y - cumN y m≤400∧r = .int .i64 (d - beginN y - cumN y m)) (fun _ k=>(13 - intOf k).toNat)
 case atStart=>exact ⟨1,by omega,by omega,rfl,by simp [cumN]; omega,by simp [cumN]; omega,by simp [cumN]⟩
 case round =>
  obtain ⟨m,hm1,hm2,rfl,hr0,hr1,rfl⟩:=hrel
  have hlb:=len_bd y m hm1 hm2
  by_cases hc:lenN y m≤d - beginN y - cumN y m
  ·
   have hm3:m < 12:=by
    by_cases h:m < 12
    ·
     exact h
    ·
     obtain rfl:m = 12:=by omega
     have:=cum_last y
     omega
   have cs:=Lib.hid (cum_succ y m hm1 hm3)
   generalize hR:d - beginN y - cumN y m = R at *
   have HR:=Lib.hid hR
   clear hR
   go_wp2_with fail
   refine (lengthK _ _ _ (by omega) (by omega) hm1 hm2 hL).mono ?_
   rintro e w' ⟨rfl,rfl⟩
   go_wp2_with fail
   refine (lengthK _ _ _ (by omega) (by omega) hm1 hm2 hL).mono ?_
   rintro e w' ⟨rfl,rfl⟩
   go_wp2
   go_round
   case rel=>exact ⟨m+1,by omega,by omega,rfl,by rw [cs.out]; have:=HR.out; omega,by rw [cs.out]; have:=HR.out; omega,by rw [cs.out]; have:=HR.out; congr 1; omega⟩
   case measure=>simp [intOf]; omega
  ·
   generalize hR:d - beginN y - cumN y m = R at *
   clear hR
   go_wp2_with fail
   refine (lengthK _ _ _ (by omega) (by omega) hm1 hm2 hL).mono ?_
   rintro e w' ⟨rfl,rfl⟩
   go_wp2
   refine bodyPost_ret (v:=.tuple #[.int .i64 y,.int .i64 m,.int .i64 (R+1),.bool true]) (by simp [results,Tryz.results195,go_sem]) rfl ⟨y,m,_,rfl,y1,y2,rfl⟩
theorem dateK_no (d:Int) (w:World) (h:d < 0 ∨ 84005 < d) : Calls Tryz.prog 195 #[.int .i64 d] w fun e w'=>e = .returned (.tuple #[.int .i64 0,.int .i64 0,.int .i64 0,.bool false])∧w = w':=by
 go_enter Tryz.func195,Tryz.ntmps195
 go_wp2_with fail
 refine (validK_no _ _ h).mono ?_
 rintro e w' ⟨rfl,rfl⟩
 go_wp2
 exact bodyPost_ret (v:=.tuple #[.int .i64 0,.int .i64 0,.int .i64 0,.bool false]) (by simp [results,Tryz.results195,go_sem]) rfl ⟨rfl,rfl⟩
theorem validH (c:Nat) (w:World) : Calls Tryz.prog 102 #[.slice none 0 c] w fun e w'=>e = .returned (.int .i64 0)∧w = w':=by
 go_enter Tryz.func102,Tryz.ntmps102
 go_wp2
 refine wp_loop_rounds 1 ?_
 rw [rounds_succ]
 go_wp2
 go_ret
 exact ⟨rfl,rfl⟩
end
end Go.Proofs.YtopekilofdadnaaGreatDoor
namespace Go.Proofs.YtopekilofdadnaaGreatDoor
open Go.RowKit
theorem SliceOf.new {α:Type} {enc:α→List Value} {k:Nat} (hk : ∀ x,(enc x).length = k) (w:World) (l:List α) (cs:Array Value) (t:TypeId) (h:cs = (l.flatMap enc).toArray) :
  SliceOf enc k (w.alloc (.cells cs t)) (w.heap.size+1) (some ⟨w.heap.size,0,none⟩) l:=fun _=>by
 subst h
 refine ⟨w.heap.size,0,rfl,by omega,fun i x hi j v hj=>?_⟩
 rw [World.cell?_alloc_at _ _ _ _ rfl,Nat.zero_add,List.getElem?_toArray]
 exact flatMap_at hk l i j x v hi hj
theorem encIn_len (x:Int) : (encI x).length = 1:=rfl
theorem pickN (b:Nat) (W:World) (l:List Int) (cs:Array Value) (n c : Nat) (hcs:cs = (l.flatMap encI).toArray) (hn:n = l.length) (hd:TapeIn W b) (hl:l ≠ []) (hn2:l.length≤1000) :
  Calls Tryz.prog 11 #[.pointer (some ⟨b,0,none⟩),.slice (some ⟨W.heap.size,0,none⟩) n c] (W.alloc (.cells cs 3)) fun e w'=>∃ r:Int,e = .returned (.int .i64 r)∧r ∈ l∧TapeIn w' b∧W.grownBy w' (some b):=by
 subst hn
 have hlt:=hd.lt
 refine (pickT b _ (some ⟨W.heap.size,0,none⟩) l c (hd.alloc _) hl hn2 ?_ ?_).mono ?_
 ·
  exact (SliceOf.new encIn_len W l cs 3 hcs).more (by simp)
 ·
  intro a ha; injection ha with ha; subst ha; show W.heap.size ≠ b; omega
 ·
  rintro e w2 ⟨r,rfl,hr,hd2,hg2⟩
  exact ⟨r,rfl,hr,hd2,only_trans (only_alloc (only_refl _ _) _) hg2⟩
def PlanPost (b:Nat) (w:World) (e:Ending) (w' : World) : Prop :=
 ∃ (v:Value) (plan:List ShiftT),e = .returned v∧Own encSf 3 32 w' w.heap.size v plan∧(∀ s ∈ plan,ShiftOk s)∧plan.length≤16∧TapeIn w' b∧w.grownBy w' (some b)
section
set_option maxHeartbeats 4000000
set_option maxRecDepth 100000
theorem planG (b:Nat) (w:World) (hd:TapeIn w b) : Calls Tryz.prog 16 #[.pointer (some ⟨b,0,none⟩),.int .i64 4] w (PlanPost b w):=by
 have hlt:=hd.lt
 go_enter Tryz.func16,Tryz.ntmps16
 go_wp2
 go_loopw [5,6] (fun v i wr=>∃ (k:Nat) (V:Value) (pl:List ShiftT),V = v∧k≤5∧i = .int .i64 k∧Own encSf 3 32 wr w.heap.size V pl∧pl.length≤2 * k∧Hid (∀ s ∈ pl,ShiftOk s)∧TapeIn wr b∧w.grownBy wr (some b)) (fun _ i _=>5 - (intOf i).toNat)
 case atStart=>exact ⟨0,_,[],rfl,by omega,rfl,Own.nil_ _ _,by simp,fun s hs=>(by cases hs),hd,only_refl _ _⟩
 case round =>
  clear hd
  obtain ⟨k,V,pl,rfl,hk,rfl,hown,hpl,HOK,hdk,hg⟩:=hrel
  have hbs:=hg.size
  by_cases hlt4:k < 4
  ·
   have hk4:(k:Int) < 4:=by omega
   go_wp2_with fail
   refine (nextT b _ _ (by omega) (by omega) hdk).mono ?_
   rintro e w1 ⟨r,rfl,h0,h1,hd1,hg1⟩
   have hgw1:=only_trans hg hg1
   have ho1:=hown.kept hg1 (fun g e=>by injection e; omega)
   have hs1:=hg1.size
   have hcase:r = 0 ∨ r = 1 ∨ r = 2 ∨ 3≤r:=by omega
   clear hg1 hdk hown
   rcases hcase with rfl | rfl | rfl | h3
   ·
    clear h0 h1
    go_wp2_with fail
    refine (pickN b w1 [480,360,450] _ _ _ rfl rfl hd1 (by simp) (by simp)).mono ?_
    rintro e w2 ⟨p1,rfl,hm1,hd2,hg2⟩
    go_wp2_with fail
    refine (pickN b w2 [480,510,300] _ _ _ rfl rfl hd2 (by simp) (by simp)).mono ?_
    rintro e w3 ⟨p2,rfl,hm2,hd3,hg3⟩
    have HO3:=Lib.hid ((ho1.kept hg2 (fun g e=>by injection e; omega)).kept hg3 (fun g e=>by injection e; omega))
    have hgw3:=only_trans (only_trans hgw1 hg2) hg3
    have hs3:=hgw3.size
    have q1:0≤p1∧p1≤1439:=by simp at hm1; omega
    have q2:1≤p2∧p2≤1440:=by simp at hm2; omega
    have HN:Hid (∀ s ∈ pl++[(⟨20454+k,p1,p2⟩ : ShiftT)],ShiftOk s):=fun s hs=>by
     rcases List.mem_append.1 hs with hs | hs
     ·
      exact HOK.out s hs
     ·
      rw [List.mem_singleton] at hs
      subst hs
      exact ⟨by show 0≤20454+(k:Int)∧20454+(k:Int)≤84005; omega,q1,q2⟩
    have HD3:=Lib.hid hd3
    have HG3:=Lib.hid hgw3
    clear hg2 hg3 hd2 hd1 ho1 hgw1 hm1 hm2 q1 q2 hd3 hgw3
    go_wp2_with (at_builtin; go_loud (refine wpList_append_one _ _ 58 (⟨20454+k,p1,p2⟩ : ShiftT) _ 24 _ infoSf Tryz.underlying58 HO3.out encSf_len (by omega) rfl (encSf_one _) (by omega) (by omega) (by omega) (by rfl) (by rfl) (by rfl) (by rfl) (by simp) (by rfl) ?_); intro v2 w6 hown6 hg6)
    have hd6:=HD3.out.grown hg6 (fun g e=>by have:=(HO3.out.block_lt e).1; omega)
    have hgw6:=only_then HG3.out hg6 (fun g e=>.inl (by have:=(HO3.out.block_lt e).1; omega))
    clear hg6
    go_roundw
    case rel=>exact ⟨k+1,_,_,rfl,by omega,by go_num,hown6,by simp; omega,HN,hd6,hgw6⟩
    case measure=>simp [intOf]; omega
   ·
    clear h0 h1
    have HO3:=Lib.hid ho1
    have HD3:=Lib.hid hd1
    have HG3:=Lib.hid hgw1
    have HN:Hid (∀ s ∈ pl++[(⟨20454+k,1320,480⟩ : ShiftT)],ShiftOk s):=fun s hs=>by
     rcases List.mem_append.1 hs with hs | hs
     ·
      exact HOK.out s hs
     ·
      rw [List.mem_singleton] at hs
      subst hs
      exact ⟨by show 0≤20454+(k:Int)∧20454+(k:Int)≤84005; omega,(by show (0:Int)≤1320∧(1320:Int)≤1439; omega),(by show (1:Int)≤480∧(480:Int)≤1440; omega)⟩
    clear ho1 hd1 hgw1
    go_wp2_with (at_builtin; go_loud (refine wpList_append_one _ _ 58 (⟨20454+k,1320,480⟩ : ShiftT) _ 24 _ infoSf Tryz.underlying58 HO3.out encSf_len (by omega) rfl (encSf_one _) (by omega) (by omega) (by omega) (by rfl) (by rfl) (by rfl) (by rfl) (by simp) (by rfl) ?_); intro v2 w6 hown6 hg6)
    have hd6:=HD3.out.grown hg6 (fun g e=>by have:=(HO3.out.block_lt e).1; omega)
    have hgw6:=only_then HG3.out hg6 (fun g e=>.inl (by have:=(HO3.out.block_lt e).1; omega))
    clear hg6
    go_roundw
    case rel=>exact ⟨k+2,_,_,rfl,by omega,by go_num,hown6,by simp; omega,HN,hd6,hgw6⟩
    case measure=>simp [intOf]; omega
   ·
    clear h0 h1
    go_wp2_with fail
    refine (pickN b w1 [240,60] _ _ _ rfl rfl hd1 (by simp) (by simp)).mono ?_
    rintro e w3 ⟨p2,rfl,hm2,hd3,hg3⟩
    have HO3:=Lib.hid (ho1.kept hg3 (fun g e=>by injection e; omega))
    have hgw3:=only_trans hgw1 hg3
    have hs3:=hgw3.size
    have q2:1≤p2∧p2≤1440:=by simp at hm2; omega
    have HN:Hid (∀ s ∈ pl++[(⟨20454+k,360,240⟩ : ShiftT),⟨20454+k,720,p2⟩],ShiftOk s):=fun s hs=>by
     rcases List.mem_append.1 hs with hs | hs
     ·
      exact HOK.out s hs
     ·
      rcases List.mem_cons.1 hs with rfl | hs
      ·
       exact ⟨by show 0≤20454+(k:Int)∧20454+(k:Int)≤84005; omega,(by show (0:Int)≤360∧(360:Int)≤1439; omega),(by show (1:Int)≤240∧(240:Int)≤1440; omega)⟩
      ·
       rw [List.mem_singleton] at hs
       subst hs
       exact ⟨by show 0≤20454+(k:Int)∧20454+(k:Int)≤84005; omega,(by show (0:Int)≤720∧(720:Int)≤1439; omega),q2⟩
    have HD3:=Lib.hid hd3
    have HG3:=Lib.hid hgw3
    have HS3:=Lib.hid (SliceOf.new encSf_len w3 [(⟨20454+k,360,240⟩ : ShiftT),⟨20454+k,720,p2⟩] #[.int .i64 (20454+k),.int .i64 360,.int .i64 240,.int .i64 (20454+k),.int .i64 720,.int .i64 p2] 32 rfl)
    have HO4:=Lib.hid (HO3.out.alloc (.cells #[.int .i64 (20454+k),.int .i64 360,.int .i64 240,.int .i64 (20454+k),.int .i64 720,.int .i64 p2] 32))
    have hsz4:w.heap.size≤(w3.alloc (.cells #[.int .i64 (20454+k),.int .i64 360,.int .i64 240,.int .i64 (20454+k),.int .i64 720,.int .i64 p2] 32)).heap.size:=by simp; omega
    have HD4:=Lib.hid (hd3.alloc (.cells #[.int .i64 (20454+k),.int .i64 360,.int .i64 240,.int .i64 (20454+k),.int .i64 720,.int .i64 p2] 32))
    have HG4:=Lib.hid (only_alloc hgw3 (.cells #[.int .i64 (20454+k),.int .i64 360,.int .i64 240,.int .i64 (20454+k),.int .i64 720,.int .i64 p2] 32))
    clear hg3 hd1 ho1 hgw1 hm2 q2 hd3 hgw3
    go_wp2_with (at_builtin; go_loud (refine wpList_append_list _ _ 58 _ 24 _ infoSf Tryz.underlying58 HO4.out HS3.out encSf_len (by omega) rfl encSf_one (by simp; omega) (by omega) hsz4 (by rfl) (by rfl) (by rfl) (by rfl) (by rfl) ?_); intro v2 w6 hown6 hg6)
    have hd6:=HD4.out.grown hg6 (fun g e=>by have:=(HO4.out.block_lt e).1; omega)
    have hgw6:=only_then HG4.out hg6 (fun g e=>.inl (by have:=(HO4.out.block_lt e).1; omega))
    clear hg6
    go_roundw
    case rel=>exact ⟨k+1,_,_,rfl,by omega,by go_num,hown6,by simp; omega,HN,hd6,hgw6⟩
    case measure=>simp [intOf]; omega
   ·
    have n0:¬ r = 0:=by omega
    have n1:¬ r = 1:=by omega
    have n2:¬ r = 2:=by omega
    go_wp2
    go_roundw
    case rel=>exact ⟨k+1,_,pl,rfl,by omega,by go_num,ho1,by omega,HOK,hd1,hgw1⟩
    case measure=>simp [intOf]; omega
  ·
   have hk4:¬ (k:Int) < 4:=by omega
   have hl16:pl.length≤16:=by omega
   have hfin:PlanPost b w (.returned V) wr:=⟨V,pl,rfl,hown,HOK.out,hl16,hdk,hg⟩
   have HF:=Lib.hid hfin
   clear hfin
   go_wp2
   go_ret
   exact HF.out
end
end Go.Proofs.YtopekilofdadnaaGreatDoor
