/- Joined texts: R31d. Conditions: as stated. -/
import Derived.Deep.RegionHeld3
import Derived.Deep.CutRange
import Derived.StillTailTactics
import Derived.Test.YtjncpgbhokjbfaaGreatJ35
namespace Go.Proofs.YtjncpgbhokjbfaaGreat
open Go.RowKit
set_option maxRecDepth 100000 in
set_option maxHeartbeats 8000000 in
theorem serve31_ok (O A : Option Addr) (oc cap : Nat) (out0:List Elem) (l:List OrdT) (priv:Bool) (left0:Int) (w:World) (hO:SliceOf encE 2 w w.heap.size O out0) (hoc:out0.length≤oc) (hocm:oc≤maxLen) (h:SliceOf encOd 5 w w.heap.size A l) (hl:OrdsOk l)
  (hS:SrvAt l (sumE out0) left0 out0 left0 0) (hS1:sumE out0≤1000000000) (hL1:left0≤1000000000) :
  Calls Tryz.prog 111 #[.slice O out0.length oc,.slice A l.length cap,.bool priv,.int .i64 left0] w fun e w'=>∃ v,e = .returned (.tuple #[v,.int .i64 (serveN out0 l priv left0).2])∧SlE w' v (serveN out0 l priv left0).1∧Below w.heap.size w w':=by
 have hlen:=hl.len
 have HL:=Lib.hid hl
 have HS:=Lib.hid hS
 have hsl0:SlE w (.slice O out0.length oc) out0:=⟨O,oc,rfl,hO,hoc,hocm⟩
 obtain ⟨R,hR⟩ : ∃ R,R = serveN out0 l priv left0:=⟨_,rfl⟩
 have HR:Hid (srv l priv (cntK l priv (-1,-1)) (-1,-1) left0 out0 0 = R):=by rw [Hid,hR]; rfl
 rw [← hR]
 clear hR hl hS hO hoc hocm
 generalize hv0:Value.slice O out0.length oc = v0 at hsl0 ⊢
 clear hv0
 go_enter Tryz.func111,Tryz.ntmps111
 go_wp2
 go_loopw [0,3,10,11,12] (fun v lf tk rk dy wr=>∃ (out:List Elem) (left taken:Int) (last:Int × Int),lf = .int .i64 left∧tk = .int .i64 taken∧rk = .int .i64 last.1∧dy = .int .i64 last.2∧Hid (srv l priv (cntK l priv last) last left out taken = R)∧Hid (SrvAt l (sumE out0) left0 out left taken)∧SlE wr v out∧Below w.heap.size w wr) (fun _ _ _ rk dy _=>cntK l priv (intOf rk,intOf dy))
 case atStart=>exact ⟨out0,left0,0,(-1,-1),rfl,rfl,rfl,rfl,HR.out,HS.out,hsl0,Below.refl _ _⟩
 case round =>
  clear hsl0
  rename World=>w1
  obtain ⟨out,left,taken,⟨rk,dy⟩,rfl,rfl,rfl,rfl,HSRV,HAT,hsl,hbel⟩:=hrel
  have hS1':=h.adv hbel
  simp only at HSRV ⊢
  go_wp2
  go_loopw [13,14,15] (fun r d i wr=>∃ k q:Nat,k≤l.length∧i = .int .i64 k∧r = .int .i64 (nkTo l priv (rk,dy) k).1∧d = .int .i64 (nkTo l priv (rk,dy) k).2∧Hid (wr = w1.drewN q)) (fun _ _ i _=>l.length - (intOf i).toNat)
  case atStart=>exact ⟨0,0,by omega,rfl,rfl,rfl,rfl⟩
  case round =>
   rename World=>w2
   obtain ⟨k,q,hk,rfl,rfl,rfl,hw2⟩:=hrel
   by_cases hlt:k < l.length
   ·
    have hx:SliceOf encOd 5 w2 w2.heap.size A l:=by rw [hw2.out]; exact hS1'.advD q
    obtain ⟨b,off,rfl,hb,hc⟩:=hx.at_ hlt
    have c1:=hc 1 _ rfl
    have c2:=hc 2 _ rfl
    clear hc
    have HT:=Lib.hid (nkTo_succ (priv:=priv) (last:=(rk,dy)) hlt)
    have hki:(k:Int) < (l.length:Int):=by omega
    generalize nkTo l priv (rk,dy) k = p at *
    obtain ⟨pr,pd⟩:=p
    simp only at HT ⊢
    rcases hel:elig priv l[k] with _ | _
    ·
     have hel':((l[k].rank == 0) == priv) = false:=by
      rw [elig] at hel
      rw [← hel]
      congr 1
     rw [stepK_no (.inl hel)] at HT
     clear hel
     go_wp2
     go_roundw
     case rel =>
      have hfin:∃ k' q':Nat,k'≤l.length∧Value.int .i64 ((k:Int)+1) = .int .i64 k'∧Value.int .i64 pr = .int .i64 (nkTo l priv (rk,dy) k').1∧Value.int .i64 pd = .int .i64 (nkTo l priv (rk,dy) k').2∧Hid (w2 = w1.drewN q'):=⟨k+1,q,by omega,by go_num,by rw [HT.out],by rw [HT.out],hw2.out⟩
      first | exact hfin | ((repeat apply Exists.intro); exact ⟨hfin,rfl⟩)
     case measure=>simp [intOf]; omega
    ·
     have hel':((l[k].rank == 0) == priv) = true:=by
      rw [elig] at hel
      rw [← hel]
      congr 1
     have HEL:=Lib.hid hel
     clear hel
     rcases (show (l[k].rank < rk) ∨ (l[k].rank = rk∧l[k].day≤dy) ∨ (rk < l[k].rank) ∨ (l[k].rank = rk∧dy < l[k].day) by omega) with a1 | ⟨a1,a2⟩ | a1 | ⟨a1,a2⟩
     ·
      have b1:(l[k].rank == rk) = false:=by rw [beq_eq_false_iff_ne]; omega
      have HN:Hid (¬ keyLt (rk,dy) (l[k].rank,l[k].day)):=by unfold Hid keyLt; simp only; omega
      as_aux_lemma =>
       rw [stepK_no (.inr (.inl HN.out))] at HT
       go_wp2
       go_roundw
       case rel =>
        have hfin:∃ k' q':Nat,k'≤l.length∧Value.int .i64 ((k:Int)+1) = .int .i64 k'∧Value.int .i64 pr = .int .i64 (nkTo l priv (rk,dy) k').1∧Value.int .i64 pd = .int .i64 (nkTo l priv (rk,dy) k').2∧Hid (w2 = w1.drewN q'):=⟨k+1,q,by omega,by go_num,by rw [HT.out],by rw [HT.out],hw2.out⟩
        first | exact hfin | ((repeat apply Exists.intro); exact ⟨hfin,rfl⟩)
       case measure=>simp [intOf]; omega
     ·
      have b1:(l[k].rank == rk) = true:=by simp [a1]
      have b2:¬ rk < l[k].rank:=by omega
      have HN:Hid (¬ keyLt (rk,dy) (l[k].rank,l[k].day)):=by unfold Hid keyLt; simp only; omega
      clear a1
      as_aux_lemma =>
       rw [stepK_no (.inr (.inl HN.out))] at HT
       go_wp2
       go_roundw
       case rel =>
        have hfin:∃ k' q':Nat,k'≤l.length∧Value.int .i64 ((k:Int)+1) = .int .i64 k'∧Value.int .i64 pr = .int .i64 (nkTo l priv (rk,dy) k').1∧Value.int .i64 pd = .int .i64 (nkTo l priv (rk,dy) k').2∧Hid (w2 = w1.drewN q'):=⟨k+1,q,by omega,by go_num,by rw [HT.out],by rw [HT.out],hw2.out⟩
        first | exact hfin | ((repeat apply Exists.intro); exact ⟨hfin,rfl⟩)
       case measure=>simp [intOf]; omega
     ·
      have HK1:Hid (keyLt (rk,dy) (l[k].rank,l[k].day)):=by unfold Hid keyLt; simp only; omega
      rcases (show (l[k].rank < pr) ∨ (l[k].rank = pr∧l[k].day < pd) ∨ (pr < l[k].rank) ∨ (l[k].rank = pr∧pd≤l[k].day) by omega) with d1 | ⟨d1,d2⟩ | d1 | ⟨d1,d2⟩
      ·
       have HK2:Hid (keyLt (l[k].rank,l[k].day) (pr,pd)):=by unfold Hid keyLt; simp only; omega
       as_aux_lemma =>
        rw [stepK_yes HEL.out HK1.out HK2.out] at HT
        go_wp2
        go_quiet (fail)
        go_wp2
        go_roundw
        case rel =>
         have hfin:∃ k' q':Nat,k'≤l.length∧Value.int .i64 ((k:Int)+1) = .int .i64 k'∧Value.int .i64 l[k].rank = .int .i64 (nkTo l priv (rk,dy) k').1∧Value.int .i64 l[k].day = .int .i64 (nkTo l priv (rk,dy) k').2∧Hid (w2.drewN nq = w1.drewN q'):=⟨k+1,q+nq,by omega,by go_num,by rw [HT.out],by rw [HT.out],by show w2.drewN nq = w1.drewN (q+nq); rw [hw2.out,World.drewN_drewN]⟩
         first | exact hfin | ((repeat apply Exists.intro); exact ⟨hfin,rfl⟩)
        case measure=>simp [intOf]; omega
      ·
       have e1:(l[k].rank == pr) = true:=by simp [d1]
       have e2:¬ l[k].rank < pr:=by omega
       have HK2:Hid (keyLt (l[k].rank,l[k].day) (pr,pd)):=by unfold Hid keyLt; simp only; omega
       clear d1
       as_aux_lemma =>
        rw [stepK_yes HEL.out HK1.out HK2.out] at HT
        go_wp2
        go_quiet (fail)
        go_wp2
        go_roundw
        case rel =>
         have hfin:∃ k' q':Nat,k'≤l.length∧Value.int .i64 ((k:Int)+1) = .int .i64 k'∧Value.int .i64 l[k].rank = .int .i64 (nkTo l priv (rk,dy) k').1∧Value.int .i64 l[k].day = .int .i64 (nkTo l priv (rk,dy) k').2∧Hid (w2.drewN nq = w1.drewN q'):=⟨k+1,q+nq,by omega,by go_num,by rw [HT.out],by rw [HT.out],by show w2.drewN nq = w1.drewN (q+nq); rw [hw2.out,World.drewN_drewN]⟩
         first | exact hfin | ((repeat apply Exists.intro); exact ⟨hfin,rfl⟩)
        case measure=>simp [intOf]; omega
      ·
       have e1:(l[k].rank == pr) = false:=by rw [beq_eq_false_iff_ne]; omega
       have HN:Hid (¬ keyLt (l[k].rank,l[k].day) (pr,pd)):=by unfold Hid keyLt; simp only; omega
       as_aux_lemma =>
        rw [stepK_no (.inr (.inr HN.out))] at HT
        go_wp2
        go_roundw
        case rel =>
         have hfin:∃ k' q':Nat,k'≤l.length∧Value.int .i64 ((k:Int)+1) = .int .i64 k'∧Value.int .i64 pr = .int .i64 (nkTo l priv (rk,dy) k').1∧Value.int .i64 pd = .int .i64 (nkTo l priv (rk,dy) k').2∧Hid (w2 = w1.drewN q'):=⟨k+1,q,by omega,by go_num,by rw [HT.out],by rw [HT.out],hw2.out⟩
         first | exact hfin | ((repeat apply Exists.intro); exact ⟨hfin,rfl⟩)
        case measure=>simp [intOf]; omega
      ·
       have e1:(l[k].rank == pr) = true:=by simp [d1]
       have e2:¬ l[k].rank < pr:=by omega
       have HN:Hid (¬ keyLt (l[k].rank,l[k].day) (pr,pd)):=by unfold Hid keyLt; simp only; omega
       clear d1
       as_aux_lemma =>
        rw [stepK_no (.inr (.inr HN.out))] at HT
        go_wp2
        go_roundw
        case rel =>
         have hfin:∃ k' q':Nat,k'≤l.length∧Value.int .i64 ((k:Int)+1) = .int .i64 k'∧Value.int .i64 pr = .int .i64 (nkTo l priv (rk,dy) k').1∧Value.int .i64 pd = .int .i64 (nkTo l priv (rk,dy) k').2∧Hid (w2 = w1.drewN q'):=⟨k+1,q,by omega,by go_num,by rw [HT.out],by rw [HT.out],hw2.out⟩
         first | exact hfin | ((repeat apply Exists.intro); exact ⟨hfin,rfl⟩)
        case measure=>simp [intOf]; omega
     ·
      have b1:(l[k].rank == rk) = true:=by simp [a1]
      have b2:¬ rk < l[k].rank:=by omega
      have HK1:Hid (keyLt (rk,dy) (l[k].rank,l[k].day)):=by unfold Hid keyLt; simp only; omega
      clear a1
      rcases (show (l[k].rank < pr) ∨ (l[k].rank = pr∧l[k].day < pd) ∨ (pr < l[k].rank) ∨ (l[k].rank = pr∧pd≤l[k].day) by omega) with d1 | ⟨d1,d2⟩ | d1 | ⟨d1,d2⟩
      ·
       have HK2:Hid (keyLt (l[k].rank,l[k].day) (pr,pd)):=by unfold Hid keyLt; simp only; omega
       as_aux_lemma =>
        rw [stepK_yes HEL.out HK1.out HK2.out] at HT
        go_wp2
        go_quiet (fail)
        go_wp2
        go_roundw
        case rel =>
         have hfin:∃ k' q':Nat,k'≤l.length∧Value.int .i64 ((k:Int)+1) = .int .i64 k'∧Value.int .i64 l[k].rank = .int .i64 (nkTo l priv (rk,dy) k').1∧Value.int .i64 l[k].day = .int .i64 (nkTo l priv (rk,dy) k').2∧Hid (w2.drewN nq = w1.drewN q'):=⟨k+1,q+nq,by omega,by go_num,by rw [HT.out],by rw [HT.out],by show w2.drewN nq = w1.drewN (q+nq); rw [hw2.out,World.drewN_drewN]⟩
         first | exact hfin | ((repeat apply Exists.intro); exact ⟨hfin,rfl⟩)
        case measure=>simp [intOf]; omega
      ·
       have e1:(l[k].rank == pr) = true:=by simp [d1]
       have e2:¬ l[k].rank < pr:=by omega
       have HK2:Hid (keyLt (l[k].rank,l[k].day) (pr,pd)):=by unfold Hid keyLt; simp only; omega
       clear d1
       as_aux_lemma =>
        rw [stepK_yes HEL.out HK1.out HK2.out] at HT
        go_wp2
        go_quiet (fail)
        go_wp2
        go_roundw
        case rel =>
         have hfin:∃ k' q':Nat,k'≤l.length∧Value.int .i64 ((k:Int)+1) = .int .i64 k'∧Value.int .i64 l[k].rank = .int .i64 (nkTo l priv (rk,dy) k').1∧Value.int .i64 l[k].day = .int .i64 (nkTo l priv (rk,dy) k').2∧Hid (w2.drewN nq = w1.drewN q'):=⟨k+1,q+nq,by omega,by go_num,by rw [HT.out],by rw [HT.out],by show w2.drewN nq = w1.drewN (q+nq); rw [hw2.out,World.drewN_drewN]⟩
         first | exact hfin | ((repeat apply Exists.intro); exact ⟨hfin,rfl⟩)
        case measure=>simp [intOf]; omega
      ·
       have e1:(l[k].rank == pr) = false:=by rw [beq_eq_false_iff_ne]; omega
       have HN:Hid (¬ keyLt (l[k].rank,l[k].day) (pr,pd)):=by unfold Hid keyLt; simp only; omega
       as_aux_lemma =>
        rw [stepK_no (.inr (.inr HN.out))] at HT
        go_wp2
        go_roundw
        case rel =>
         have hfin:∃ k' q':Nat,k'≤l.length∧Value.int .i64 ((k:Int)+1) = .int .i64 k'∧Value.int .i64 pr = .int .i64 (nkTo l priv (rk,dy) k').1∧Value.int .i64 pd = .int .i64 (nkTo l priv (rk,dy) k').2∧Hid (w2 = w1.drewN q'):=⟨k+1,q,by omega,by go_num,by rw [HT.out],by rw [HT.out],hw2.out⟩
         first | exact hfin | ((repeat apply Exists.intro); exact ⟨hfin,rfl⟩)
        case measure=>simp [intOf]; omega
      ·
       have e1:(l[k].rank == pr) = true:=by simp [d1]
       have e2:¬ l[k].rank < pr:=by omega
       have HN:Hid (¬ keyLt (l[k].rank,l[k].day) (pr,pd)):=by unfold Hid keyLt; simp only; omega
       clear d1
       as_aux_lemma =>
        rw [stepK_no (.inr (.inr HN.out))] at HT
        go_wp2
        go_roundw
        case rel =>
         have hfin:∃ k' q':Nat,k'≤l.length∧Value.int .i64 ((k:Int)+1) = .int .i64 k'∧Value.int .i64 pr = .int .i64 (nkTo l priv (rk,dy) k').1∧Value.int .i64 pd = .int .i64 (nkTo l priv (rk,dy) k').2∧Hid (w2 = w1.drewN q'):=⟨k+1,q,by omega,by go_num,by rw [HT.out],by rw [HT.out],hw2.out⟩
         first | exact hfin | ((repeat apply Exists.intro); exact ⟨hfin,rfl⟩)
        case measure=>simp [intOf]; omega
   ·
    obtain rfl:k = l.length:=by omega
    rw [nkTo_all]
    have hsl2:SlE w2 _ out:=hsl.adv (by rw [hw2.out]; exact below_drewN (Below.refl _ _) q)
    have hbel2:Below w.heap.size w w2:=by rw [hw2.out]; exact below_drewN hbel q
    have hS2:=h.adv hbel2
    clear hw2 hsl hbel hS1' hk hlt
    by_cases h10:(nextK l priv (rk,dy)).1 = 10
    ·
     have hb10:((nextK l priv (rk,dy)).1 == 10) = true:=by simp [h10]
     have hst:=srv_stop (left:=left) (taken:=taken) (out:=out) (cntK l priv (rk,dy)) h10
     rw [HSRV.out] at hst
     have HST:=Lib.hid hst
     clear hst h10
     go_wp2
     go_ret2
     rw [HST.out]
     exact ⟨_,rfl,hsl2,hbel2⟩
    ·
     have hb10:((nextK l priv (rk,dy)).1 == 10) = false:=by rw [beq_eq_false_iff_ne]; exact h10
     have hst:=srv_step (left:=left) (taken:=taken) (out:=out) h10
     have HCT:=Lib.hid (cntK_lt h10)
     rw [HSRV.out] at hst
     have HST:=Lib.hid hst
     clear hst h10 HSRV
     generalize nextK l priv (rk,dy) = key at *
     obtain ⟨kr,kd⟩:=key
     simp only at hb10 ⊢
     obtain ⟨P,hP⟩ : ∃ P,P = partsG l (kr,kd) left:=⟨_,rfl⟩
     have hl0:=HAT.out.l0
     have ht0:=HAT.out.t0
     have htl:=HAT.out.tl
     have hl1:left≤1000000000:=by omega
     have ht1:taken≤1000000000:=by omega
     have HCB:=Lib.hid (clm_bd (k:=(kr,kd)) HL.out.ok)
     have hfl:(l.filter (inGrp (kr,kd))).length≤16:=Nat.le_trans (List.length_filter_le _ _) hlen
     clear htl
     go_wp2
     go_loopw [16,17,18] (fun cv sv i wr=>∃ k:Nat,k≤l.length∧i = .int .i64 k∧sv = .int .i64 (sumI ((grpTo l (kr,kd) k).map claimN))∧Own encI 1 3 wr w2.heap.size cv ((grpTo l (kr,kd) k).map claimN)∧Below w2.heap.size w2 wr) (fun _ _ i _=>l.length - (intOf i).toNat)
     case atStart=>exact ⟨0,by omega,rfl,rfl,Own.nil_ _ _,Below.refl _ _⟩
     case round =>
      rename World=>w3
      obtain ⟨k,hk,rfl,rfl,hown,hb3⟩:=hrel
      have hS3:=hS2.adv hb3
      have hbs3:=hb3.size
      by_cases hlt:k < l.length
      ·
       obtain ⟨b,off,rfl,hb,hc⟩:=hS3.at_ hlt
       have c0:=hc 0 _ rfl
       have c1:=hc 1 _ rfl
       have c2:=hc 2 _ rfl
       have c3:=hc 3 _ rfl
       have c4:=hc 4 _ rfl
       simp only [Nat.add_zero] at c0
       have hki:(k:Int) < (l.length:Int):=by omega
       clear hc
       have hgl:=Nat.le_trans (grpTo_len l (kr,kd) k) hfl
       have hmem:∀ x ∈ (grpTo l (kr,kd) k).map claimN,0≤x∧x≤1000000000:=fun x hx=>by
        obtain ⟨o,ho,rfl⟩:=List.mem_map.1 hx
        exact claim_bd (HL.out.ok o (List.mem_of_mem_take (mem_flt ho)))
       obtain ⟨s0,s1⟩:=sumI_bd hmem
       rw [List.length_map] at s1
       have s2:sumI ((grpTo l (kr,kd) k).map claimN)≤16000000000:=by omega
       obtain ⟨q0,q1⟩:=claim_bd (HL.out.ok _ (List.getElem_mem hlt))
       clear s1 hmem
       have hskip:inGrp (kr,kd) l[k] = false→grpTo l (kr,kd) (k+1) = grpTo l (kr,kd) k:=grpTo_no hlt
       have HSK:=Lib.hid hskip
       clear hskip
       by_cases e1:l[k].rank = kr
       ·
        have e1':(l[k].rank == kr) = true:=by simp [e1]
        by_cases e2:l[k].day = kd
        ·
         have e2':(l[k].day == kd) = true:=by simp [e2]
         have HG:=Lib.hid (grpTo_yes (key:=(kr,kd)) hlt (by simp [inGrp,e1,e2]))
         have hcon:=fun w=>claim31_any l[k] w
         unfold aggOd at hcon
         have HCL:=Lib.hid hcon
         have hml:((grpTo l (kr,kd) k).map claimN).length≤16:=by rw [List.length_map]; exact hgl
         clear e1 e2 hcon HSK
         go_wp2_with fail
         refine Calls.mono (HCL.out _) ?_
         rintro e w4 ⟨rfl,hb4⟩
         have hown4:=hown.adv hb4
         have hb24:=bel_adv hb3 hb4
         have hs4:=hb24.size
         have hS4:=hS2.adv hb24
         have hr7:=fun q hq=>(hown4.block_lt (g:=q) hq).1
         have HCELL:Hid (∀ W,Below w2.heap.size w2 W→∀ j v,(encOd l[k])[j]? = some v→W.cell? ⟨b,off+k * 5+j,none⟩ = some v):=by
          intro W hW j v hj
          obtain ⟨b',off',hA',_,hc⟩:=(hS2.adv hW).at_ hlt
          injection hA' with hA'
          injection hA' with hA' hA''
          subst hA' hA''
          exact hc j v hj
         generalize hcl:claimN l[k] = cl at *
         clear hown c0 c1 c2 c3 c4 hb3
         go_wp2_with (at_builtin; (refine wpList_append_one _ _ 22 cl _ 8 _ infoInt Tryz.underlying22 hown4 encI_len (by omega) rfl (fun u hu=>by simp [encI] at hu; subst hu; rfl) (by omega) (by omega) hs4 (by rfl) (by rfl) (by rfl) (by rfl) (by simp) (by rfl) ?_); intro v5 w5 hown5 hg5; have hb5:=bel_only hb24 hg5 hr7; have dd:=HCELL.out _ hb5; have d0:=dd 0 _ rfl; have d1:=dd 1 _ rfl; have d2:=dd 2 _ rfl; have d3:=dd 3 _ rfl; have d4:=dd 4 _ rfl; simp only [Nat.add_zero] at d0; clear dd)
         refine Calls.mono (HCL.out _) ?_
         rintro e w6 ⟨rfl,hb6⟩
         have hown6:=hown5.adv hb6
         have hb26:=bel_adv hb5 hb6
         have HG2:Hid (sumI ((grpTo l (kr,kd) k).map claimN)+cl = sumI ((grpTo l (kr,kd) (k+1)).map claimN)):=by
          rw [Hid,HG.out,List.map_append,sumI_append,List.map_singleton,hcl]; simp [sumI]
         have HO6:Hid (Own encI 1 3 w6 w2.heap.size v5 ((grpTo l (kr,kd) (k+1)).map claimN)):=by
          rw [Hid,HG.out,List.map_append,List.map_singleton,hcl]; exact hown6
         clear hown4 hown5 hown6 d0 d1 d2 d3 d4 HCELL HCL
         go_wp2
         go_roundw
         case rel =>
          have hfin:∃ k':Nat,k'≤l.length∧Value.int .i64 ((k:Int)+1) = .int .i64 k'∧Value.int .i64 (sumI ((grpTo l (kr,kd) k).map claimN)+cl) = .int .i64 (sumI ((grpTo l (kr,kd) k').map claimN))∧Own encI 1 3 w6 w2.heap.size v5 ((grpTo l (kr,kd) k').map claimN)∧Below w2.heap.size w2 w6:=⟨k+1,by omega,by go_num,by rw [HG2.out],HO6.out,hb26⟩
          first | exact hfin | ((repeat apply Exists.intro); exact ⟨hfin,rfl⟩)
         case measure=>simp [intOf]; omega
        ·
         have e2':(l[k].day == kd) = false:=by rw [beq_eq_false_iff_ne]; exact e2
         have HG:=Lib.hid (HSK.out (by simp [inGrp,e2]))
         clear e1 e2 HSK
         go_wp2
         go_roundw
         case rel =>
          have hfin:∃ k':Nat,k'≤l.length∧Value.int .i64 ((k:Int)+1) = .int .i64 k'∧Value.int .i64 (sumI ((grpTo l (kr,kd) k).map claimN)) = .int .i64 (sumI ((grpTo l (kr,kd) k').map claimN))∧Own encI 1 3 w3 w2.heap.size _ ((grpTo l (kr,kd) k').map claimN)∧Below w2.heap.size w2 w3:=⟨k+1,by omega,by go_num,by rw [HG.out],by rw [HG.out]; exact hown,hb3⟩
          first | exact hfin | ((repeat apply Exists.intro); exact ⟨hfin,rfl⟩)
         case measure=>simp [intOf]; omega
       ·
        have e1':(l[k].rank == kr) = false:=by rw [beq_eq_false_iff_ne]; exact e1
        have HG:=Lib.hid (HSK.out (by simp [inGrp,e1]))
        clear e1 HSK
        go_wp2
        go_roundw
        case rel =>
         have hfin:∃ k':Nat,k'≤l.length∧Value.int .i64 ((k:Int)+1) = .int .i64 k'∧Value.int .i64 (sumI ((grpTo l (kr,kd) k).map claimN)) = .int .i64 (sumI ((grpTo l (kr,kd) k').map claimN))∧Own encI 1 3 w3 w2.heap.size _ ((grpTo l (kr,kd) k').map claimN)∧Below w2.heap.size w2 w3:=⟨k+1,by omega,by go_num,by rw [HG.out],by rw [HG.out]; exact hown,hb3⟩
         first | exact hfin | ((repeat apply Exists.intro); exact ⟨hfin,rfl⟩)
        case measure=>simp [intOf]; omega
      ·
       obtain rfl:k = l.length:=by omega
       rw [grpTo_all] at hown ⊢
       clear hk hlt
       have hPl:=parts_len l (kr,kd) left
       obtain ⟨hPn,hPs,_⟩:=parts_bd (l:=l) (k:=(kr,kd)) (left:=left) HL.out.ok hl0
       rw [← hP] at hPl hPn hPs
       have HPL:=Lib.hid hPl
       have HPN:=Lib.hid hPn
       have HPS:=Lib.hid hPs
       have hPlen:P.length≤16:=by omega
       have HPQ:Hid (P = if left < sumI ((l.filter (inGrp (kr,kd))).map claimN) then allocN left ((l.filter (inGrp (kr,kd))).map claimN) else (l.filter (inGrp (kr,kd))).map claimN):=by rw [Hid,hP]; rfl
       have hmem:∀ x ∈ (l.filter (inGrp (kr,kd))).map claimN,0≤x∧x≤1000000000:=HCB.out
       have HMEM:=Lib.hid hmem
       have hml:(List.map claimN (List.filter (inGrp (kr,kd)) l)).length≤16:=by rw [List.length_map]; exact hfl
       have HLQ:Hid (P.length = (List.map claimN (List.filter (inGrp (kr,kd)) l)).length):=by rw [Hid,hPl,List.length_map]
       have hcl:=hown.form encI_len
       obtain ⟨ca,cc,rfl,hcs,_,_⟩:=hcl
       have hbs3:=hb3.size
       have HPE:=Lib.hid hP
       have hS2':=Lib.hid hS2
       clear hPl hPn hPs hP hown hS2 h HR HS hfl HCB hmem
       generalize List.map claimN (List.filter (inGrp (kr,kd)) l) = cm at *
       go_upto_if 146 with fail
       go_cut [19] from 22 to 205 (fun pv wx=>SlI wx pv P∧Below w2.heap.size w2 wx)
       case first =>
        by_cases hgt:left < sumI cm
        ·
         have HPA:Hid (P = allocN left cm):=by rw [Hid,HPQ.out]; exact if_pos hgt
         have HAL:=Lib.hid (allocate2_ok left ca cc _ w3 hcs hl0 hl1 HMEM.out (by omega) (by omega))
         clear hcs HPE HPL HPN HPS HPQ HL HAT HST HCT hsl2 hbel2 hPlen
         go_wp2_with fail
         refine Calls.mono HAL.out ?_
         rintro e w4 ⟨g,rfl,hg4,hrow,hb4⟩
         clear HAL
         go_wp2_with fail
         go_meet
         have hsz:∀ n m:Nat,n = m→Value.slice (some ⟨g,0,none⟩) n n = Value.slice (some ⟨g,0,none⟩) m n:=fun n m e=>by rw [e]
         exact ⟨⟨some ⟨g,0,none⟩,cm.length,hsz _ _ HLQ.out.symm,by rw [HPA.out]; exact hrow.slice⟩,bel_adv hb3 hb4⟩
        ·
         have HPA:Hid (P = cm):=by rw [Hid,HPQ.out]; exact if_neg hgt
         clear HPE HPL HPN HPS HPQ HL HAT HST HCT hsl2 hbel2 hPlen
         go_wp2_with fail
         go_meet
         exact ⟨⟨ca,cc,by rw [HPA.out],by rw [HPA.out]; exact hcs⟩,hb3⟩
       case rest =>
        obtain ⟨⟨PA,pc,rfl,hPS⟩,hb4⟩:=hcut
        rename World=>w4
        have hsl4:=hsl2.adv hb4
        have hbel4:Below w.heap.size w w4:=bel_adv hbel2 hb4
        have hS4:=hS2'.out.adv hb4
        clear hsl2 hbel2 hb4 hb3 hbs3 hcs hml
        go_wp2_with fail
        go_loopw [0,3,10,20,21] (fun ov lv tv kv iv wr=>∃ (k j:Nat) (o:List Elem) (lf tk:Int),k≤l.length∧iv = .int .i64 k∧kv = .int .i64 j∧lv = .int .i64 lf∧tv = .int .i64 tk∧Hid (SrvL l (kr,kd) P out left taken k j o lf tk)∧Hid (SrvAt l (sumE out0) left0 o lf tk)∧SlE wr ov o∧Below w4.heap.size w4 wr) (fun _ _ _ _ i _=>l.length - (intOf i).toNat)
        case atStart=>exact ⟨0,0,out,left,taken,by omega,rfl,rfl,rfl,rfl,SrvL.start,HAT.out,hsl4,Below.refl _ _⟩
        case round =>
         clear hsl4 HAT
         rename World=>w5
         obtain ⟨k,j,o,lf,tk,hk,rfl,rfl,rfl,rfl,HSL,HSA,hsl5,hb5⟩:=hrel
         by_cases hlt:k < l.length
         ·
          obtain ⟨b,off,rfl,hb,hc⟩:=(hS4.adv hb5).at_ hlt
          have c0:=hc 0 _ rfl
          have c1:=hc 1 _ rfl
          have c2:=hc 2 _ rfl
          have c3:=hc 3 _ rfl
          have c4:=hc 4 _ rfl
          simp only [Nat.add_zero] at c0
          have hki:(k:Int) < (l.length:Int):=by omega
          clear hc
          have hrelno:inGrp (kr,kd) l[k] = false→∃ (k' j':Nat) (o':List Elem) (lf' tk':Int),k'≤l.length∧Value.int .i64 ((k:Int)+1) = .int .i64 k'∧Value.int .i64 (j:Int) = .int .i64 j'∧Value.int .i64 lf = .int .i64 lf'∧Value.int .i64 tk = .int .i64 tk'∧Hid (SrvL l (kr,kd) P out left taken k' j' o' lf' tk')∧Hid (SrvAt l (sumE out0) left0 o' lf' tk')∧SlE w5 _ o'∧Below w4.heap.size w4 w5:=fun hg=>⟨k+1,j,o,lf,tk,by omega,by go_num,rfl,rfl,rfl,HSL.out.no hlt hg,HSA.out,hsl5,hb5⟩
          have HNO:=Lib.hid hrelno
          clear hrelno
          by_cases e1:l[k].rank = kr
          ·
           have e1':(l[k].rank == kr) = true:=by simp [e1]
           by_cases e2:l[k].day = kd
           ·
            have e2':(l[k].day == kd) = true:=by simp [e2]
            have hg:inGrp (kr,kd) l[k] = true:=by simp [inGrp,e1,e2]
            have hjP:=HSL.out.lt HPL.out hlt hg
            obtain ⟨p0,p1⟩:=HSL.out.bd HPN.out HPS.out hjP
            have HNX:=Lib.hid (HSL.out.yes HPL.out hlt hg)
            have HSA2:=Lib.hid (HSA.out.step (List.getElem_mem hlt) p0 p1)
            have HSA1:=HSA.out
            have t0':=HSA1.t0
            have l0':=HSA1.l0
            have tl':=HSA1.tl
            have hol:=HSA1.len hlen
            have HAM:=Lib.hid (HSA1.amt hS1 hL1)
            have hlf1:lf≤1000000000:=by omega
            have htk1:tk≤1000000000:=by omega
            obtain ⟨bp,offp,rfl,hbp,hcp⟩:=(hPS.adv hb5).at_ hjP
            have d0:=hcp 0 _ rfl
            simp only [Nat.add_zero,Nat.mul_one] at d0
            have hpj:P[j] = P.getD j 0:=by rw [List.getD_eq_getElem?_getD,List.getElem?_eq_getElem hjP]; rfl
            rw [hpj] at d0
            have hji:(j:Int) < (P.length:Int):=by omega
            clear hcp hpj e1 e2 hg HSL HSA HSA1 tl' HNO
            generalize P.getD j 0 = pj at *
            obtain ⟨A5,c5,rfl,hS5,hlc5,hcm5⟩:=hsl5
            by_cases hp:0 < pj
            ·
             have HPO:Hid (putO o l[k] pj = put o ⟨l[k].id,pj⟩):=by rw [Hid,putO,if_pos hp]
             as_aux_lemma =>
              go_upto_region 29 with fail
              go_still_tail 11,(by kernel_rfl)
              change wpList _ _ _ _ _ w5.drew
              have hS5':SliceOf encE 2 w5.drew w5.drew.heap.size A5 o:=hS5
              go_wp2_with fail
              refine (put_any A5 c5 o ⟨l[k].id,pj⟩ _ hS5' hlc5 hcm5 (by omega) HAM.out (by show -1000000000000000≤pj; omega) (by show pj≤1000000000000000; omega)).mono ?_
              rintro e w6 ⟨v6,rfl,hown6,hb6⟩
              have hb6':Below w5.heap.size w5 w6:=⟨hb6.os,hb6.tape,hb6.output,hb6.size,hb6.block⟩
              have d0':=(hb6'.cell (p:=⟨bp,offp+j,none⟩) hbp).trans d0
              have hsl6:=hown6.slE
              rw [← HPO.out] at hsl6
              have hb46:=bel_adv hb5 hb6'
              clear d0 c0 c1 c2 c3 c4 hS5 hS5' hown6 hb6 hb6' HPO hb5
              go_wp2
              go_roundw
              case rel =>
               have hfin:∃ (k' j':Nat) (o':List Elem) (lf' tk':Int),k'≤l.length∧Value.int .i64 ((k:Int)+1) = .int .i64 k'∧Value.int .i64 ((j:Int)+1) = .int .i64 j'∧Value.int .i64 (lf - pj) = .int .i64 lf'∧Value.int .i64 (tk+pj) = .int .i64 tk'∧Hid (SrvL l (kr,kd) P out left taken k' j' o' lf' tk')∧Hid (SrvAt l (sumE out0) left0 o' lf' tk')∧SlE w6 v6 o'∧Below w4.heap.size w4 w6:=⟨k+1,j+1,_,_,_,by omega,by go_num,by go_num,rfl,rfl,HNX.out,HSA2.out,hsl6,hb46⟩
               first | exact hfin | ((repeat apply Exists.intro); exact ⟨hfin,rfl⟩)
              case measure=>simp [intOf]; omega
            ·
             have HPO:Hid (putO o l[k] pj = o):=by rw [Hid,putO,if_neg hp]
             as_aux_lemma =>
              have hsl6:SlE w5 (.slice A5 o.length c5) (putO o l[k] pj):=by rw [HPO.out]; exact ⟨A5,c5,rfl,hS5,hlc5,hcm5⟩
              clear HPO hS5
              go_wp2
              go_roundw
              case rel =>
               have hfin:∃ (k' j':Nat) (o':List Elem) (lf' tk':Int),k'≤l.length∧Value.int .i64 ((k:Int)+1) = .int .i64 k'∧Value.int .i64 ((j:Int)+1) = .int .i64 j'∧Value.int .i64 (lf - pj) = .int .i64 lf'∧Value.int .i64 (tk+pj) = .int .i64 tk'∧Hid (SrvL l (kr,kd) P out left taken k' j' o' lf' tk')∧Hid (SrvAt l (sumE out0) left0 o' lf' tk')∧SlE w5 (.slice A5 o.length c5) o'∧Below w4.heap.size w4 w5:=⟨k+1,j+1,_,_,_,by omega,by go_num,by go_num,rfl,rfl,HNX.out,HSA2.out,hsl6,hb5⟩
               first | exact hfin | ((repeat apply Exists.intro); exact ⟨hfin,rfl⟩)
              case measure=>simp [intOf]; omega
           ·
            have e2':(l[k].day == kd) = false:=by rw [beq_eq_false_iff_ne]; exact e2
            have HG:Hid (inGrp (kr,kd) l[k] = false):=by simp [Hid,inGrp,e2]
            clear e1 e2
            go_wp2
            go_roundw
            case rel=>first | exact HNO.out HG.out | ((repeat apply Exists.intro); exact ⟨HNO.out HG.out,rfl⟩)
            case measure=>simp [intOf]; omega
          ·
           have e1':(l[k].rank == kr) = false:=by rw [beq_eq_false_iff_ne]; exact e1
           have HG:Hid (inGrp (kr,kd) l[k] = false):=by simp [Hid,inGrp,e1]
           clear e1
           go_wp2
           go_roundw
           case rel=>first | exact HNO.out HG.out | ((repeat apply Exists.intro); exact ⟨HNO.out HG.out,rfl⟩)
           case measure=>simp [intOf]; omega
         ·
          obtain rfl:k = l.length:=by omega
          have HDN:=Lib.hid (HSL.out.done HPL.out)
          clear hk hlt HSL hPS HPL HPN HPS
          go_wp2_with fail
          go_roundw
          case rel =>
           have hfin:∃ (out':List Elem) (left' taken':Int) (last:Int × Int),Value.int .i64 lf = .int .i64 left'∧Value.int .i64 tk = .int .i64 taken'∧Value.int .i64 kr = .int .i64 last.1∧Value.int .i64 kd = .int .i64 last.2∧Hid (srv l priv (cntK l priv last) last left' out' taken' = R)∧Hid (SrvAt l (sumE out0) left0 out' left' taken')∧SlE w5 _ out'∧Below w.heap.size w w5:=⟨o,lf,tk,(kr,kd),rfl,rfl,rfl,rfl,by rw [Hid,HST.out,HDN.out.1,HDN.out.2.1,HDN.out.2.2,HPE.out],HSA.out,hsl5,bel_adv hbel4 hb5⟩
           first | exact hfin | ((repeat apply Exists.intro); exact ⟨hfin,rfl⟩)
          case measure=>simp [intOf]; exact HCT.out
end Go.Proofs.YtjncpgbhokjbfaaGreat
