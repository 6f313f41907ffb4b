/- Joined texts: P28c. Conditions: as stated. -/
import Derived.Test.YtlhkojcmcmkmaaaGreatJStab
import Derived.Test.YtlhkojcmcmkmaaaGreatJCmp0
import Derived.Test.YtlhkojcmcmkmaaaGreatJP28
namespace Go.Proofs.YtlhkojcmcmkmaaaGreat
open Go.RowKit
def lvP (v:LevyT) (ws:List Int) (c i : Nat) : Int:=(allocN (if c = 0 then v.base else if c = 1 then v.employee else v.employer) ws).getD i 0
def lvF (v:LevyT) (ws:List Int) (f k j : Nat) : Value:=.int .i64 (if j % 3 < f ∨ (j % 3 = f∧j / 3 < k) then lvP v ws (j % 3) (j / 3) else 0)
theorem lvF_start (v:LevyT) (ws:List Int) (n:Nat) {w:World} {g:Nat} (h:Blk w g 142 ((List.replicate n zLv).flatMap encLv).toArray) : w.rowIs g 142 (n * 3) (lvF v ws 0 0):=by
 have e:(List.replicate n zLv).flatMap encLv = List.replicate (n * 3) (Value.int .i64 0):=by
  clear h
  induction n with
  | zero=>rfl
  | succ n ih=>rw [List.replicate_succ,List.flatMap_cons,ih,show (n+1) * 3 = n * 3+1+1+1 by omega,List.replicate_succ,List.replicate_succ,List.replicate_succ]; rfl
 refine ⟨_,h,by rw [e]; simp,fun i hi=>?_⟩
 rw [e]
 simp [lvF,hi]
theorem lvF_next {v:LevyT} {ws:List Int} {n f k : Nat} {w:World} {g:Nat} (h:w.rowIs g 142 (n * 3) (lvF v ws f k)) (hf:f < 3) {x:Int} (hx:x = lvP v ws f k) : (w.setCell ⟨g,k * 3+f,none⟩ (.int .i64 x)).rowIs g 142 (n * 3) (lvF v ws f (k+1)):=by
 subst hx
 refine (h.set (k * 3+f) _).congr fun i _=>?_
 by_cases e:i = k * 3+f
 ·
  subst e
  rw [if_pos rfl]
  have e1:(k * 3+f) % 3 = f:=by omega
  have e2:(k * 3+f) / 3 = k:=by omega
  simp [lvF,e1,e2]
 ·
  rw [if_neg e]
  unfold lvF
  by_cases h1:i % 3 < f ∨ (i % 3 = f∧i / 3 < k)
  ·
   rw [if_pos h1,if_pos (by omega)]
  ·
   rw [if_neg h1,if_neg (by omega)]
theorem lvF_up {v:LevyT} {ws:List Int} {n f : Nat} {w:World} {g:Nat} (h:w.rowIs g 142 (n * 3) (lvF v ws f n)) : w.rowIs g 142 (n * 3) (lvF v ws (f+1) 0):=by
 refine h.congr fun i hi=>?_
 unfold lvF
 by_cases h1:i % 3 < f ∨ (i % 3 = f∧i / 3 < n)
 ·
  rw [if_pos h1,if_pos (by omega)]
 ·
  rw [if_neg h1,if_neg (by omega)]
theorem lvF_all {v:LevyT} {ws:List Int} {w:World} {g:Nat} (h:w.rowIs g 142 (ws.length * 3) (lvF v ws 3 0)) (hs:sumI ws ≠ 0) : SliceOf encLv 3 w w.heap.size (some ⟨g,0,none⟩) (divN v ws):=fun _=>by
 refine ⟨g,0,rfl,h.lt,fun i x hi j u hu=>?_⟩
 have hl:i < ws.length:=by
  have:=(List.getElem?_eq_some_iff.1 hi).1
  rwa [divN_len] at this
 rw [divN,if_neg hs,List.getElem?_map,List.getElem?_range hl] at hi
 injection hi with hi
 subst hi
 rw [Nat.zero_add]
 match j,hu with
 | 0,hu =>
  have h1:=h.cell (i:=i * 3+0) (by omega)
  rw [h1]
  simp [encLv] at hu
  subst hu
  have e1:(i * 3+0) % 3 = 0:=by omega
  have e2:(i * 3+0) / 3 = i:=by omega
  simp only [lvF,e1,e2]; rfl
 | 1,hu =>
  have h1:=h.cell (i:=i * 3+1) (by omega)
  rw [h1]
  simp [encLv] at hu
  subst hu
  have e1:(i * 3+1) % 3 = 1:=by omega
  have e2:(i * 3+1) / 3 = i:=by omega
  simp only [lvF,e1,e2]; rfl
 | 2,hu =>
  have h1:=h.cell (i:=i * 3+2) (by omega)
  rw [h1]
  simp [encLv] at hu
  subst hu
  have e1:(i * 3+2) % 3 = 2:=by omega
  have e2:(i * 3+2) / 3 = i:=by omega
  simp only [lvF,e1,e2]; rfl
 | q+3,hu=>simp [encLv] at hu
theorem lvZ_all {v:LevyT} {ws:List Int} {w:World} {g:Nat} (h:w.rowIs g 142 (ws.length * 3) (lvF v ws 0 0)) (hs:sumI ws = 0) (hn:0 < ws.length) : SliceOf encLv 3 (((w.setCell ⟨g,0,none⟩ (.int .i64 v.base)).setCell ⟨g,1,none⟩ (.int .i64 v.employee)).setCell ⟨g,2,none⟩ (.int .i64 v.employer)) (((w.setCell ⟨g,0,none⟩ (.int .i64 v.base)).setCell ⟨g,1,none⟩ (.int .i64 v.employee)).setCell ⟨g,2,none⟩ (.int .i64 v.employer)).heap.size (some ⟨g,0,none⟩) (divN v ws):=fun _=>by
 have h3:=((h.set 0 (.int .i64 v.base)).set 1 (.int .i64 v.employee)).set 2 (.int .i64 v.employer)
 refine ⟨g,0,rfl,h3.lt,fun i x hi j u hu=>?_⟩
 have hl:i < ws.length:=by
  have:=(List.getElem?_eq_some_iff.1 hi).1
  rwa [divN_len] at this
 rw [divN,if_pos hs,List.getElem?_set] at hi
 rw [Nat.zero_add]
 have hj3:j < 3:=by have:=(List.getElem?_eq_some_iff.1 hu).1; rwa [encLv_len] at this
 rw [h3.cell (i:=i * 3+j) (by omega)]
 by_cases e:i = 0
 ·
  subst e
  rw [if_pos rfl,if_pos (by simpa using hn)] at hi
  injection hi with hi
  subst hi
  match j,hu with
  | 0,hu=>simpa [encLv] using hu
  | 1,hu=>simpa [encLv] using hu
  | 2,hu=>simpa [encLv] using hu
  | q+3,hu=>simp [encLv] at hu
 ·
  rw [if_neg (fun h=>e h.symm),List.getElem?_replicate,if_pos (by simpa using hl)] at hi
  injection hi with hi
  subst hi
  rw [if_neg (by omega),if_neg (by omega),if_neg (by omega)]
  match j,hu with
  | 0,hu=>simpa [encLv,zLv,lvF] using hu
  | 1,hu=>simpa [encLv,zLv,lvF] using hu
  | 2,hu=>simpa [encLv,zLv,lvF] using hu
  | q+3,hu=>simp [encLv] at hu
set_option maxRecDepth 100000 in
set_option maxHeartbeats 8000000 in
theorem divideLv (v:LevyT) (A:Option Addr) (cap:Nat) (ws:List Int) (w:World) (h:SliceOf encI 1 w w.heap.size A ws) (hw : ∀ x ∈ ws,0≤x∧x≤1000000000) (hl:ws.length≤8) (hn0:0 < ws.length) (v0:0≤v.base) (v1:0≤v.employee) (v2:0≤v.employer) :
  Calls Tryz.prog 163 #[.agg #[.int .i64 v.base,.int .i64 v.employee,.int .i64 v.employer],.slice A ws.length cap] w (LvPostF (if overJ v then [] else divN v ws) (if overJ v then 4 else 0) w):=by
 obtain ⟨sb0,sb1⟩:=sumI_bd (l:=ws) (B:=1000000000) hw
 have sb2:sumI ws≤8000000000:=by omega
 have HW:=Lib.hid hw
 have HPOST:Hid (∀ m er e w',m = (if overJ v then [] else divN v ws)→er = (if overJ v then 4 else 0)→LvPostF m er w e w'→LvPostF (if overJ v then [] else divN v ws) (if overJ v then 4 else 0) w e w'):=fun m er e w' h1 h2 h3=>by subst h1 h2; exact h3
 have HOV:Hid (overJ v = (decide (1000000000 < v.base) || decide (1000000000 < v.employee) || decide (1000000000 < v.employer))):=rfl
 generalize LvPostF (if overJ v then [] else divN v ws) (if overJ v then 4 else 0) w = POST at HPOST ⊢
 have hmk:=make_levies ws.length (by omega)
 clear hw sb1
 obtain ⟨n,hn⟩ : ∃ n,ws.length = n:=⟨_,rfl⟩
 have HN:=Lib.hid hn
 rw [hn] at hmk hl hn0 ⊢
 clear hn
 go_enter Tryz.func163,Tryz.ntmps163
 go_upto_region 1 with fail
 have hL:=Blk.new w 142 #[.int .i64 v.base,.int .i64 v.employee,.int .i64 v.employer]
 have hbel:=below_new w (.cells #[.int .i64 v.base,.int .i64 v.employee,.int .i64 v.employer] 142)
 generalize w.alloc (.cells #[.int .i64 v.base,.int .i64 v.employee,.int .i64 v.employer] 142) = W at hL hbel ⊢
 have hS:=h.adv hbel
 go_wp2
 go_loop [6,20] (fun s' i=>∃ k:Nat,k≤n∧i = .int .i64 k∧s' = .int .i64 (sumI (ws.take k))) (fun _ i=>n - (intOf i).toNat)
 case atStart=>exact ⟨0,by omega,rfl,rfl⟩
 case round =>
  obtain ⟨k,hk,rfl,rfl⟩:=hrel
  have hb3:=sumI_bd (l:=ws.take k) (B:=1000000000) (fun x hx=>HW.out x (List.mem_of_mem_take hx))
  simp only [List.length_take] at hb3
  obtain ⟨b0,b1⟩:=hb3
  have b2:sumI (ws.take k)≤20000000000:=by have:=HN.out; omega
  clear b1
  by_cases hlt:k < n
  ·
   have hkw:k < ws.length:=by rw [HN.out]; exact hlt
   obtain ⟨b,off,rfl,hb,hc⟩:=hS.at_ hkw
   have c0:=hc 0 _ rfl
   simp only [Nat.add_zero,Nat.mul_one] at c0
   have HT:=Lib.hid (sumI_take ws k hkw)
   obtain ⟨x0,x1⟩:=HW.out _ (List.getElem_mem hkw)
   have hki:(k:Int) < (n:Int):=by omega
   clear hc hL
   go_wp2
   go_round
   case rel=>exact ⟨k+1,by omega,by go_num,by rw [HT.out]⟩
   case measure=>simp [intOf]; omega
  ·
   obtain rfl:k = n:=by omega
   rw [List.take_of_length_le (by rw [HN.out]; exact Nat.le_refl _)] at b0 b2 ⊢
   clear hk hlt
   go_wp2_with fail
   refine (fieldsP28 w.heap.size 0 _).mono ?_
   rintro e w1 ⟨rfl,hb1⟩
   have hL1:=hL.adv hb1
   have hbel1:=bel_adv hbel hb1
   have hS1:=hS.adv hb1
   clear hL hbel hS hb1
   have z0:=hL1.cell 0
   have z1:=hL1.cell 1
   have z2:=hL1.cell 2
   simp only [nqg,nqh,nqi] at z0 z1 z2
   have hj0:=fun w':World=>idx3_0 ⟨w.heap.size,0,none⟩ ⟨w.heap.size,1,none⟩ ⟨w.heap.size,2,none⟩ w'
   have hj1:=fun w':World=>idx3_1 ⟨w.heap.size,0,none⟩ ⟨w.heap.size,1,none⟩ ⟨w.heap.size,2,none⟩ w'
   have hj2:=fun w':World=>idx3_2 ⟨w.heap.size,0,none⟩ ⟨w.heap.size,1,none⟩ ⟨w.heap.size,2,none⟩ w'
   by_cases o0:1000000000 < v.base
   ·
    have hov:overJ v = true:=by rw [HOV.out]; simp [o0]
    have HNO:Hid (∀ e w',LvPostF [] 4 w e w'→POST e w'):=fun e w' h3=>HPOST.out _ _ e w' (by rw [hov]; rfl) (by rw [hov]; rfl) h3
    clear hov HPOST HOV
    go_wp2
    refine wp_loop_rounds 4 ?_
    rw [rounds_succ]
    go_wp2
    exact HNO.out _ _ ⟨none,0,rfl,SliceOf.nil_,Nat.le_refl _,(fun a ha=>by cases ha),hbel1⟩
   by_cases o1:1000000000 < v.employee
   ·
    have hov:overJ v = true:=by rw [HOV.out]; simp [o1]
    have HNO:Hid (∀ e w',LvPostF [] 4 w e w'→POST e w'):=fun e w' h3=>HPOST.out _ _ e w' (by rw [hov]; rfl) (by rw [hov]; rfl) h3
    clear hov HPOST HOV
    go_wp2
    refine wp_loop_rounds 4 ?_
    rw [rounds_succ]
    go_wp2
    rw [rounds_succ]
    go_wp2
    exact HNO.out _ _ ⟨none,0,rfl,SliceOf.nil_,Nat.le_refl _,(fun a ha=>by cases ha),hbel1⟩
   by_cases o2:1000000000 < v.employer
   ·
    have hov:overJ v = true:=by rw [HOV.out]; simp [o2]
    have HNO:Hid (∀ e w',LvPostF [] 4 w e w'→POST e w'):=fun e w' h3=>HPOST.out _ _ e w' (by rw [hov]; rfl) (by rw [hov]; rfl) h3
    clear hov HPOST HOV
    go_wp2
    refine wp_loop_rounds 4 ?_
    rw [rounds_succ]
    go_wp2
    rw [rounds_succ]
    go_wp2
    rw [rounds_succ]
    go_wp2
    exact HNO.out _ _ ⟨none,0,rfl,SliceOf.nil_,Nat.le_refl _,(fun a ha=>by cases ha),hbel1⟩
   ·
    have hov:overJ v = false:=by rw [HOV.out]; simp [o0,o1,o2]
    have HNO:Hid (∀ e w',LvPostF (divN v ws) 0 w e w'→POST e w'):=fun e w' h3=>HPOST.out _ _ e w' (by rw [hov]; rfl) (by rw [hov]; rfl) h3
    have u0:v.base≤1000000000:=by omega
    have u1:v.employee≤1000000000:=by omega
    have u2:v.employer≤1000000000:=by omega
    clear hov HPOST HOV o0 o1 o2
    go_wp2
    refine wp_loop_rounds 4 ?_
    rw [rounds_succ]
    go_wp2
    rw [rounds_succ]
    go_wp2
    rw [rounds_succ]
    go_wp2
    rw [rounds_succ]
    go_upto_region 14 with fail
    have hM:=lvF_start v ws k (Blk.new w1 142 ((List.replicate k zLv).flatMap encLv).toArray)
    have hbM:=below_new w1 (.cells ((List.replicate k zLv).flatMap encLv).toArray 142)
    have hL2:=hL1.adv hbM
    have hbel2:=bel_adv hbel1 hbM
    have hS2:=hS1.adv hbM
    have hws1:=hbel1.size
    have hlv1:=hL1.lt
    generalize w1.alloc (.cells ((List.replicate k zLv).flatMap encLv).toArray 142) = w2 at hM hbM hL2 hbel2 hS2 ⊢
    obtain ⟨gm,hgm⟩ : ∃ g,g = w1.heap.size:=⟨_,rfl⟩
    rw [← hgm] at hM
    rw [← hgm]
    have hge:w.heap.size≤gm:=by omega
    have hne:w.heap.size ≠ gm:=by omega
    clear hL1 hbel1 hS1 hbM hws1 hgm z0 z1 z2 hmk
    by_cases hz:sumI ws = 0
    ·
     have hz':(sumI ws == 0) = true:=by simp [hz]
     have hZ:=lvZ_all (v:=v) (by rw [HN.out]; exact hM) hz (by rw [HN.out]; exact hn0)
     have HZ:=Lib.hid hZ
     have HBZ:=Lib.hid (bel_set (bel_set (bel_set hbel2 hge 0 (.int .i64 v.base)) hge 1 (.int .i64 v.employee)) hge 2 (.int .i64 v.employer))
     have y0:=hM.cell (i:=0) (by omega)
     have y1:=hM.cell (i:=1) (by omega)
     have y2:=hM.cell (i:=2) (by omega)
     have f0:=hM.frozen 0
     have f1:=hM.frozen 1
     have f2:=hM.frozen 2
     have lm:=hM.lt
     generalize lvF v ws 0 0 0 = t0 at y0
     generalize lvF v ws 0 0 1 = t1 at y1
     generalize lvF v ws 0 0 2 = t2 at y2
     have hk0:(0:Int) < (k:Int):=by omega
     have z0:=hL2.cell 0
     have z1:=hL2.cell 1
     have z2:=hL2.cell 2
     simp only [nqg,nqh,nqi] at z0 z1 z2
     clear hZ hM hL2 hbel2 hS2
     go_wp2
     exact HNO.out _ _ ⟨some ⟨gm,0,none⟩,k,by rw [divN_len,HN.out]; rfl,HZ.out,by rw [divN_len,HN.out]; exact Nat.le_refl _,(fun a ha=>by injection ha with ha; subst ha; exact hge),HBZ.out⟩
    ·
     have hz':(sumI ws == 0) = false:=by rw [beq_eq_false_iff_ne]; exact hz
     have hzp:0 < sumI ws:=by omega
     have HZN:=Lib.hid hz
     have hwne:ws ≠ []:=fun e=>by have h1:=HN.out; rw [e] at h1; simp at h1; omega
     obtain ⟨b,off,hAe,hbw,_⟩:=h hwne
     have hSx:∀ w':World,w2.grownBy w' (some gm)→SliceOf encI 1 w' w'.heap.size A ws:=fun w' hg=>hS2.advG hg (fun a ha=>by rw [hAe] at ha; injection ha with ha; subst ha; show b ≠ gm; omega)
     have hAL:∀ (x:Int) (w':World),w2.grownBy w' (some gm)→0≤x→x≤1000000000→Calls Tryz.prog 204 #[.int .i64 x,.slice A k cap] w' fun e w''=>∃ g,e = .returned (.tuple #[.slice (some ⟨g,0,none⟩) k k,.int .i64 0])∧w'.heap.size≤g∧RowI w'' g (allocN x ws)∧Below w'.heap.size w' w'':=fun x w' hg h0 h1=>by
      have:=allocateP x A cap ws w' (hSx w' hg) h0 h1 HW.out hzp (by rw [HN.out]; omega)
      rwa [HN.out] at this
     have HALC:=Lib.hid hAL
     have HB2:=Lib.hid hbel2
     have HDA:Hid (∀ (w':World),w'.rowIs gm 142 (k * 3) (lvF v ws 3 0)→SliceOf encLv 3 w' w'.heap.size (some ⟨gm,0,none⟩) (divN v ws)):=fun w' hm=>lvF_all (by rw [HN.out]; exact hm) hz
     have HDL:Hid ((divN v ws).length = k):=by rw [Hid,divN_len,HN.out]
     have HLN:Hid (∀ x,(allocN x ws).length = k):=fun x=>by rw [allocN_len,HN.out]
     clear hAL hSx hAe hbw hwne hS2 hz hzp hbel2 h HW
     have z0:=hL2.cell 0
     have z1:=hL2.cell 1
     have z2:=hL2.cell 2
     simp only [nqg,nqh,nqi] at z0 z1 z2
     go_wp2_with fail
     refine (fieldsP28 w.heap.size 0 _).mono ?_
     rintro e w3 ⟨rfl,hb3⟩
     have hM0:=World.rowIs.of_block hM (hb3.block gm hM.lt)
     have hg0:w2.grownBy w3 (some gm):=only_of_below hb3 _
     have hLa0:=hL2.adv hb3
     clear hM hL2 hb3 z0 z1 z2
     go_wp2
     refine wp_loop_rounds 4 ?_
     rw [rounds_succ]
     have z0:=hLa0.cell 0
     have z1:=hLa0.cell 1
     have z2:=hLa0.cell 2
     simp only [nqg,nqh,nqi] at z0 z1 z2
     go_wp2_with fail
     refine Calls.mono (HALC.out v.base _ hg0 v0 u0) ?_
     rintro e x0 ⟨gq0,rfl,hgq0,hQ0,hbq0⟩
     have hnq0:gq0 ≠ gm:=by have:=hM0.lt; omega
     have hN0:=World.rowIs.of_block hM0 (hbq0.block gm hM0.lt)
     have hh0:=only_adv hg0 hbq0
     have hLb0:=hLa0.adv hbq0
     clear hM0 hg0 hLa0 hbq0 hgq0 z0 z1 z2
     go_wp2
     go_loopw [64] (fun i wr=>∃ q:Nat,q≤k∧i = .int .i64 q∧wr.rowIs gm 142 (k * 3) (lvF v ws 0 q)∧x0.grownBy wr (some gm)) (fun i _=>k - (intOf i).toNat)
     case atStart=>exact ⟨0,by omega,rfl,hN0,only_refl _ _⟩
     case round =>
      rename World=>wr0
      clear hN0
      obtain ⟨q,hq,rfl,hMq,hgq⟩:=hrel
      have hQq:=hQ0.grown hgq (fun e=>hnq0 (by injection e))
      have hLq:=hLb0.grown hgq (fun e=>hne (by injection e))
      by_cases hlt:q < k
      ·
       have zq:=hQq.cell (i:=q) (by rw [HLN.out]; exact hlt)
       have hlvp:(allocN v.base ws).getD q 0 = lvP v ws 0 q:=rfl
       rw [hlvp] at zq
       have hqi:(q:Int) < (k:Int):=by omega
       clear hQq hLq hlvp
       go_wp2_with fail
       refine (fieldsP28 gm (q * 3) _).mono ?_
       rintro e y ⟨rfl,hby⟩
       have hMy:=World.rowIs.of_block hMq (hby.block gm hMq.lt)
       have hgy:=only_adv hgq hby
       have zm:=hMy.cell (i:=q * 3+0) (by omega)
       have fm:=hMy.frozen (q * 3+0)
       have lm:=hMy.lt
       try simp only [Nat.add_zero] at zm fm
       have hjf:=fun w':World=>idx3_0 ⟨gm,q * 3,none⟩ ⟨gm,q * 3+1,none⟩ ⟨gm,q * 3+2,none⟩ w'
       generalize lvF v ws 0 q _ = t at zm
       have HM:=Lib.hid hMy
       have HG:=Lib.hid hgy
       clear hMy hgy hMq hgq hby
       go_wp2
       go_roundw
       case rel=>exact ⟨q+1,by omega,by go_num,lvF_next HM.out (by omega) rfl,only_setCell HG.out (.inl rfl) _⟩
       case measure=>simp [intOf]; omega
      ·
       obtain rfl:k = q:=by omega
       have hM1:=lvF_up hMq
       have hg1:=only_trans hh0 hgq
       have hLa1:=hLq
       clear hMq hgq hQq hLq hQ0 hLb0 hh0 hnq0 hlt hq
       go_wp2
       rw [rounds_succ]
       have z0:=hLa1.cell 0
       have z1:=hLa1.cell 1
       have z2:=hLa1.cell 2
       simp only [nqg,nqh,nqi] at z0 z1 z2
       go_wp2_with fail
       refine Calls.mono (HALC.out v.employee _ hg1 v1 u1) ?_
       rintro e x1 ⟨gq1,rfl,hgq1,hQ1,hbq1⟩
       have hnq1:gq1 ≠ gm:=by have:=hM1.lt; omega
       have hN1:=World.rowIs.of_block hM1 (hbq1.block gm hM1.lt)
       have hh1:=only_adv hg1 hbq1
       have hLb1:=hLa1.adv hbq1
       clear hM1 hg1 hLa1 hbq1 hgq1 z0 z1 z2
       go_wp2
       go_loopw [64] (fun i wr=>∃ q:Nat,q≤k∧i = .int .i64 q∧wr.rowIs gm 142 (k * 3) (lvF v ws 1 q)∧x1.grownBy wr (some gm)) (fun i _=>k - (intOf i).toNat)
       case atStart=>exact ⟨0,by omega,rfl,hN1,only_refl _ _⟩
       case round =>
        rename World=>wr1
        clear hN1
        obtain ⟨q,hq,rfl,hMq,hgq⟩:=hrel
        have hQq:=hQ1.grown hgq (fun e=>hnq1 (by injection e))
        have hLq:=hLb1.grown hgq (fun e=>hne (by injection e))
        by_cases hlt:q < k
        ·
         have zq:=hQq.cell (i:=q) (by rw [HLN.out]; exact hlt)
         have hlvp:(allocN v.employee ws).getD q 0 = lvP v ws 1 q:=rfl
         rw [hlvp] at zq
         have hqi:(q:Int) < (k:Int):=by omega
         clear hQq hLq hlvp
         go_wp2_with fail
         refine (fieldsP28 gm (q * 3) _).mono ?_
         rintro e y ⟨rfl,hby⟩
         have hMy:=World.rowIs.of_block hMq (hby.block gm hMq.lt)
         have hgy:=only_adv hgq hby
         have zm:=hMy.cell (i:=q * 3+1) (by omega)
         have fm:=hMy.frozen (q * 3+1)
         have lm:=hMy.lt
         try simp only [Nat.add_zero] at zm fm
         have hjf:=fun w':World=>idx3_1 ⟨gm,q * 3,none⟩ ⟨gm,q * 3+1,none⟩ ⟨gm,q * 3+2,none⟩ w'
         generalize lvF v ws 1 q _ = t at zm
         have HM:=Lib.hid hMy
         have HG:=Lib.hid hgy
         clear hMy hgy hMq hgq hby
         go_wp2
         go_roundw
         case rel=>exact ⟨q+1,by omega,by go_num,lvF_next HM.out (by omega) rfl,only_setCell HG.out (.inl rfl) _⟩
         case measure=>simp [intOf]; omega
        ·
         obtain rfl:k = q:=by omega
         have hM2:=lvF_up hMq
         have hg2:=only_trans hh1 hgq
         have hLa2:=hLq
         clear hMq hgq hQq hLq hQ1 hLb1 hh1 hnq1 hlt hq
         go_wp2
         rw [rounds_succ]
         have z0:=hLa2.cell 0
         have z1:=hLa2.cell 1
         have z2:=hLa2.cell 2
         simp only [nqg,nqh,nqi] at z0 z1 z2
         go_wp2_with fail
         refine Calls.mono (HALC.out v.employer _ hg2 v2 u2) ?_
         rintro e x2 ⟨gq2,rfl,hgq2,hQ2,hbq2⟩
         have hnq2:gq2 ≠ gm:=by have:=hM2.lt; omega
         have hN2:=World.rowIs.of_block hM2 (hbq2.block gm hM2.lt)
         have hh2:=only_adv hg2 hbq2
         have hLb2:=hLa2.adv hbq2
         clear hM2 hg2 hLa2 hbq2 hgq2 z0 z1 z2
         go_wp2
         go_loopw [64] (fun i wr=>∃ q:Nat,q≤k∧i = .int .i64 q∧wr.rowIs gm 142 (k * 3) (lvF v ws 2 q)∧x2.grownBy wr (some gm)) (fun i _=>k - (intOf i).toNat)
         case atStart=>exact ⟨0,by omega,rfl,hN2,only_refl _ _⟩
         case round =>
          rename World=>wr2
          clear hN2
          obtain ⟨q,hq,rfl,hMq,hgq⟩:=hrel
          have hQq:=hQ2.grown hgq (fun e=>hnq2 (by injection e))
          have hLq:=hLb2.grown hgq (fun e=>hne (by injection e))
          by_cases hlt:q < k
          ·
           have zq:=hQq.cell (i:=q) (by rw [HLN.out]; exact hlt)
           have hlvp:(allocN v.employer ws).getD q 0 = lvP v ws 2 q:=rfl
           rw [hlvp] at zq
           have hqi:(q:Int) < (k:Int):=by omega
           clear hQq hLq hlvp
           go_wp2_with fail
           refine (fieldsP28 gm (q * 3) _).mono ?_
           rintro e y ⟨rfl,hby⟩
           have hMy:=World.rowIs.of_block hMq (hby.block gm hMq.lt)
           have hgy:=only_adv hgq hby
           have zm:=hMy.cell (i:=q * 3+2) (by omega)
           have fm:=hMy.frozen (q * 3+2)
           have lm:=hMy.lt
           try simp only [Nat.add_zero] at zm fm
           have hjf:=fun w':World=>idx3_2 ⟨gm,q * 3,none⟩ ⟨gm,q * 3+1,none⟩ ⟨gm,q * 3+2,none⟩ w'
           generalize lvF v ws 2 q _ = t at zm
           have HM:=Lib.hid hMy
           have HG:=Lib.hid hgy
           clear hMy hgy hMq hgq hby
           go_wp2
           go_roundw
           case rel=>exact ⟨q+1,by omega,by go_num,lvF_next HM.out (by omega) rfl,only_setCell HG.out (.inl rfl) _⟩
           case measure=>simp [intOf]; omega
          ·
           obtain rfl:k = q:=by omega
           have hM3:=lvF_up hMq
           have hg3:=only_trans hh2 hgq
           have hLa3:=hLq
           clear hMq hgq hQq hLq hQ2 hLb2 hh2 hnq2 hlt hq
           go_wp2
           rw [rounds_succ]
           have HFIN:=Lib.hid (HDA.out _ hM3)
           have HFB:=Lib.hid (bel_only HB2.out hg3 (fun q e=>by injection e; omega))
           clear hM3 hg3 hLa3
           go_wp2
           exact HNO.out _ _ ⟨some ⟨gm,0,none⟩,k,by rw [HDL.out]; rfl,HFIN.out,by rw [HDL.out]; exact Nat.le_refl _,(fun a ha=>by injection ha with ha; subst ha; exact hge),HFB.out⟩
end Go.Proofs.YtlhkojcmcmkmaaaGreat
