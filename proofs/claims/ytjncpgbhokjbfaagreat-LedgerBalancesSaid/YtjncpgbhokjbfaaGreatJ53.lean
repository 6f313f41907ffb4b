/- Joined texts: Bal Awake44 RefBk Res35 Wages44. Conditions: as stated. -/
import Derived.Maps.Keyed
import Derived.Test.YtjncpgbhokjbfaaGreatJ01
import Derived.Test.YtjncpgbhokjbfaaGreatJ03
import Derived.Test.YtjncpgbhokjbfaaGreatJ04
import Derived.Test.YtjncpgbhokjbfaaGreatJ06
import Derived.Test.YtjncpgbhokjbfaaGreatJ47
import Derived.Test.YtjncpgbhokjbfaaGreatJ49
import Derived.Test.YtjncpgbhokjbfaaGreatJ52
namespace Go.Proofs.YtjncpgbhokjbfaaGreat
open Go.RowKit Go.Maps Go.WideMaps Go.WideElems Go.ChangeMaps
def litI (r:Int) : Lit:=.int .i64 r
def goodI (r:Int) : Prop:=(Lit.int .i64 r).wf = true
def hasRun (m:List BookT) (r:Int) : Bool:=m.any fun x=>decide (x.run = r)
theorem keyedI : Keyed Tryz.prog 3:=int_keyed Tryz.underlying3
theorem keyGI : KeyG litI goodI where
 lit c _:=trivial
 inj c d _ _ e:=by
  injection e
theorem hasRun_take (m:List BookT) (k:Nat) (h:k < m.length) (r:Int) : hasRun (m.take (k+1)) r = (hasRun (m.take k) r || decide (m[k].run = r)):=by
 rw [hasRun,List.take_succ_eq_append_getElem h,List.any_append]
 simp only [hasRun,List.any_cons,List.any_nil,Bool.or_false]
set_option maxRecDepth 100000 in
set_option maxHeartbeats 4000000 in
theorem balanced_any (A:Option Addr) (cap:Nat) (xs:List BookT) (w:World) (h:SliceOf encB 3 w w.heap.size A xs) (hl:xs.length≤9223372036854775806) :
  Calls Tryz.prog 9 #[.slice A xs.length cap] w fun e w'=>e = .returned (.bool (balB xs))∧Below w.heap.size w w':=by
 have hmm:=@run_makeMap Tryz.prog
 go_enter Tryz.func9,Tryz.ntmps9
 go_wp2_with fail
 refine (mergeB_any A cap xs _ h hl).mono ?_
 rintro e w1 ⟨A1,c1,rfl,hS1,hlc1,hcm1,hb1⟩
 by_cases hE:mErrB xs = 0
 rotate_left
 ·
  have hE':(mErrB xs != 0) = true:=by simpa using hE
  have hE2:(mErrB xs == 0) = false:=by simpa using hE
  have HB:Hid (balB xs = false):=by rw [Hid,balB,if_neg hE]
  clear hE
  go_wp2
  go_ret
  exact ⟨by rw [HB.out]; rfl,hb1⟩
 ·
  have HB:Hid (balB xs = balL (mRB xs)):=by rw [Hid,balB,if_pos hE]
  rw [hE]
  have HFA:=Lib.hid (mRB_facts xs).2
  have hml:=mRB_len xs
  generalize mRB xs = m at hS1 hlc1 HB HFA hml ⊢
  clear hE
  go_wp2
  have hmap0:(w1.alloc (.map #[] 0)).ownsMap Tryz.prog 3 (plainElem (H:=Unit) Tryz.prog 3) w1.heap.size 0 (.map []):=World.ownsMap_made _ _ _ _
  have hbel0:Below w1.heap.size w1 (w1.alloc (.map #[] 0)):=below_new _ _
  go_loopw [20] (fun i wr=>∃ (k:Nat) (D:DataW Unit),k≤m.length∧i = .int .i64 k∧wr.ownsMap Tryz.prog 3 (plainElem (H:=Unit) Tryz.prog 3) w1.heap.size k D∧MapG litI goodI D (hasRun (m.take k)) (runTot (m.take k))∧Below w1.heap.size w1 wr) (fun i _=>m.length - (intOf i).toNat)
  case atStart=>exact ⟨0,.map [],by omega,rfl,hmap0,MapG.empty,hbel0⟩
  case round =>
   clear hmap0 hbel0
   obtain ⟨k,D,hk,rfl,hown,hD,hbel⟩:=hrel
   have hbs:=hbel.size
   by_cases hlt:k < m.length
   ·
    obtain ⟨b,off,rfl,hb,hc⟩:=(hS1.adv hbel).at_ hlt
    have c0:=hc 0 _ rfl
    have c1:=hc 1 _ rfl
    have c2:=hc 2 _ rfl
    simp only [Nat.add_zero] at c0
    clear hc
    obtain ⟨⟨r1,r2⟩,_,ha1,ha2⟩:=(okB_iff _).1 (HFA.out _ (List.getElem_mem hlt)).1
    have hgd:goodI m[k].run:=wf64 (by omega) (by omega)
    have hkey:keyOf Tryz.prog 3 (.int .i64 m[k].run) = some (litI m[k].run):=keyOf_int_mk Tryz.underlying3 hgd
    have hown1:=hown.kept (World.grownBy_alloc wr (Obj.cells #[.int .i64 m[k].run,.int .i64 m[k].account,.int .i64 m[k].amount] 64) none) (by simp)
    have hTb:=runTot_bd (m.take k) m[k].run (fun x hx=>(HFA.out x (List.mem_of_mem_take hx)).1)
    have hTl:(m.take k).length≤131072:=by simp; omega
    have hT1 : -200000000000000000≤runTot (m.take k) m[k].run:=by omega
    have hT2:runTot (m.take k) m[k].run≤200000000000000000:=by omega
    have hat0:=hD.at_ _ hgd
    have hD1:=hD.put_ (K':=hasRun (m.take (k+1))) (T':=runTot (m.take (k+1))) keyGI m[k].run hgd (runTot (m.take k) m[k].run+m[k].amount) (hasRun_take m k hlt) (fun c=>by
     rw [runTot_take m k hlt]
     split
     ·
      rename_i e; rw [← e]
     ·
      omega)
    have HD1:=Lib.hid hD1
    have HAT:=Lib.hid hat0
    generalize runTot (m.take k) m[k].run = t0 at hT1 hT2 HD1 HAT
    clear hTb hTl hat0 hD hD1 hgd hmm
    go_wp2_with (first
     | (at_lookup; refine wpList_lookup_own_int _ (by rfl) _ _ 62 (by rfl) 3 3 .i64 keyedI Tryz.underlying62 Tryz.underlying3 (zeroI _) w1.heap.size k D (by rfl) hown1 _ _ (by rfl) hkey ?_; intro c hat hwc; obtain rfl:c = t0:=(by have h1:=HAT.out; rw [hat] at h1; injection h1 with h1; injection h1))
     | (at_mapUpdate; refine wpList_mapUpdate_own _ (by rfl) _ _ _ 62 (by rfl) 3 3 keyedI Tryz.underlying62 _ w1.heap.size k D (by rfl) hown1 (by unfold maxLen; omega) _ _ _ (by rfl) (by rfl) hkey _ [] (plainElem_int Tryz.underlying3 (wf64 (by omega) (by omega))) ?_; intro w2 hown2 hgrow1))
    go_roundw
    case rel=>exact ⟨k+1,_,by omega,by go_num,hown2,HD1.out,bel_only (bel_alloc hbel _) hgrow1 (fun g e=>by injection e; omega)⟩
    case measure=>simp [intOf]; omega
   ·
    obtain rfl:k = m.length:=by omega
    have hg0:decide ((m.length:Int) < (m.length:Int)) = false:=by simp
    have hg1:decide (m.length < m.length) = false:=by simp
    rw [List.take_length] at hD
    obtain ⟨wq,rfl⟩ : ∃ wq:World,wq = wr:=⟨_,rfl⟩
    have hBl:w1.heap.size < wq.heap.size:=hown.lt
    clear hk hlt
    go_wp2_with (at_range; refine wpList_range_own _ (by rfl) _ 62 (by rfl) 3 3 keyedI Tryz.underlying62 (plainElem (H:=Unit) Tryz.prog 3) w1.heap.size m.length D (by rfl) hown ?_; intro w0 hrg0 hg0' hs0)
    go_frame
    go_loopw [] (fun wr=>∃ left cnt,wr.ranges Tryz.prog 3 (plainElem (H:=Unit) Tryz.prog 3) w1.heap.size wq.heap.size m.length D left cnt∧Hid (∀ r,goodI r→hasRun m r = true→left (litI r) = false→runTot m r = 0)∧Below wq.heap.size wq wr) (fun wr=>wr.rangeLeft w1.heap.size wq.heap.size)
    case atStart=>exact ⟨_,_,hrg0,(fun r hr hK hl=>by rw [hD.has r hr,hK] at hl; cases hl),only_below hg0' (Nat.le_refl _) (by simp)⟩
    case round =>
     have HD:=Lib.hid hD
     clear hown hD hrg0 hg0' hs0
     obtain ⟨left,cnt,hrg,hz,hbelq⟩:=hrel
     have hrs:=hrg.lt
     go_wp2_with (at_next; refine wpList_next_ranges _ (by rfl) _ (by rfl) 3 keyedI (plainElem (H:=Unit) Tryz.prog 3) (Value.int .i64) (Value.int .i64) (fun key kl hk=>by obtain ⟨x,hx,_⟩:=Maps.keyOf_int_inv Tryz.underlying3 hk; exact ⟨x,hx⟩) (fun v y hv=>by obtain ⟨c,hc,_⟩:=plainElem_int_inv Tryz.underlying3 hv; exact ⟨c,hc⟩) w1.heap.size wq.heap.size m.length _ _ _ (by rfl) hrg ?_ ?_)
     ·
      intro hc0 hl0
      have hbl:balL m = true:=balL_yes (fun x hx=>hz.out x.run (by
       obtain ⟨⟨r1,r2⟩,_⟩:=(okB_iff _).1 (HFA.out x hx).1
       exact wf64 (by omega) (by omega)) (List.any_eq_true.2 ⟨x,hx,by simp⟩) (hl0 _))
      have HBL:=Lib.hid hbl
      clear hbl hl0
      go_wp2
      go_ret
      exact ⟨by rw [HB.out,HBL.out]; rfl,bel_adv hb1 (bel_adv hbel hbelq)⟩
     ·
      intro s c kl yd yp w2 cnt2 hkey hlk hv hat hrg2 hlt hg2 hs2 hen
      obtain ⟨x',hx',rfl,hgd⟩:=Maps.keyOf_int_inv Tryz.underlying3 hkey
      injection hx' with _ hx'
      subst hx'
      have hyd:yd = i64L c:=by
       obtain ⟨c',h1,h2,_⟩:=plainElem_int_inv Tryz.underlying3 hv
       injection h1 with _ h1
       subst h1
       injection h2
      have hKs:hasRun m s = true:=by rw [← HD.out.has s hgd]; exact has_true_of_atKey hat
      have hTs:runTot m s = c:=by
       have h1:=HD.out.at_ s hgd
       rw [show litI s = Lit.int .i64 s from rfl,hat,hyd] at h1
       injection h1 with h1
       injection h1 with _ h1
       exact h1.symm
      have hbel2:Below wq.heap.size wq w2:=bel_only hbelq hg2 (by intro g e; injection e; omega)
      by_cases hc0:c = 0
      ·
       have hn0:(c != 0) = false:=by simp [hc0]
       have hn1:(c == 0) = true:=by simp [hc0]
       have HZ2:Hid (∀ r,goodI r→hasRun m r = true→(left (litI r) && !(litI r).sameKey (Lit.int .i64 s)) = false→runTot m r = 0):=by
        intro r hr hK hl
        by_cases e:r = s
        ·
         subst e; omega
        ·
         have hne:(litI r).sameKey (Lit.int .i64 s) = false:=sameKey_ne (fun e'=>e (by injection e'))
         rw [hne] at hl
         exact hz.out r hr hK (by simpa using hl)
       clear hs2 hat hkey hv hyd hTs hc0
       go_wp2_with fail
       go_roundw
       case rel =>
        have hf:∃ left cnt,w2.ranges Tryz.prog 3 (plainElem (H:=Unit) Tryz.prog 3) w1.heap.size wq.heap.size m.length D left cnt∧Hid (∀ r,goodI r→hasRun m r = true→left (litI r) = false→runTot m r = 0)∧Below wq.heap.size wq w2:=⟨_,_,hrg2,HZ2,hbel2⟩
        first | exact hf | ((repeat apply Exists.intro); exact ⟨hf,rfl⟩)
       case measure=>rw [hrg2.left_eq,hrg.left_eq]; omega
      ·
       have hn0:(c != 0) = true:=by simp [hc0]
       have hn1:(c == 0) = false:=by simp [hc0]
       have HBL:Hid (balL m = false):=by
        obtain ⟨x,hx,e⟩:=List.any_eq_true.1 hKs
        have e':x.run = s:=by simpa using e
        exact balL_no hx (by rw [e',hTs]; exact hc0)
       clear hs2 hat hkey hv hyd hTs hc0
       go_wp2_with fail
       go_ret
       exact ⟨by rw [HB.out,HBL.out]; rfl,bel_adv hb1 (bel_adv hbel hbel2)⟩
end Go.Proofs.YtjncpgbhokjbfaaGreat
namespace Go.Proofs.YtjncpgbhokjbfaaGreat
open Go.RowKit
def baW : List WageT:=[⟨⟨#[98,97,115,101]⟩,1,false,false,false,4000⟩]
set_option maxRecDepth 100000 in
set_option maxHeartbeats 1000000 in
theorem base_any (w:World) : Calls Tryz.prog 25 #[] w fun e w'=>∃ A c,e = .returned (.slice A baW.length c)∧SliceOf encW 6 w' w'.heap.size A baW∧Below w.heap.size w w':=by
 go_enter Tryz.func25,Tryz.ntmps25
 go_wp2
 have hN:=SliceOf.new encW_len w baW _ 61 rfl
 go_ret
 exact ⟨some ⟨w.heap.size,0,none⟩,1,rfl,hN.more (by simp),below_new _ _⟩
def awP : List PostT:=[⟨1,1,0,⟨1,⟨#[98,97,115,101]⟩,100⟩⟩,⟨1,1,0,⟨6,⟨#[]⟩,30⟩⟩,⟨1,1,0,⟨9,⟨#[]⟩,70⟩⟩]
def awB : List BookT:=[⟨1,100,-70⟩,⟨1,102,-30⟩,⟨1,4000,100⟩]
theorem aw1 : eErr baW awP = 0:=by decide +kernel
theorem aw2 : eRes baW awP = awB:=by decide +kernel
theorem aw3 : balB awB = true:=by decide +kernel
theorem awEq (w:World) : Sem.run Tryz.prog (binOp .eql 64 (.agg #[.int .i64 1,.int .i64 100,.int .i64 (-70)]) (.agg #[.int .i64 1,.int .i64 100,.int .i64 (-70)])) w = .ok (.bool true) w:=by kernel_rfl
theorem guardBk : Tryz.prog.eqGuardType Tryz.prog.depth 64 = false:=by kernel_rfl
set_option maxRecDepth 100000 in
set_option maxHeartbeats 2000000 in
theorem awake_any (w:World) : Calls Tryz.prog 10 #[] w fun e w'=>e = .returned (.bool true)∧Below w.heap.size w w':=by
 have heq:=awEq
 have hgd:=guardBk
 go_enter Tryz.func10,Tryz.ntmps10
 go_wp2_with fail
 have hL0:=SliceOf.new encP_len w awP (awP.flatMap encP).toArray 55 rfl
 have hL:=hL0.more (B':=(w.alloc (.cells (awP.flatMap encP).toArray 55)).heap.size) (by simp)
 have hbelL:Below w.heap.size w (w.alloc (.cells (awP.flatMap encP).toArray 55)):=below_new _ _
 rw [show (awP.flatMap encP).toArray = #[.int .i64 1,.int .i64 1,.int .i64 0,.int .i64 1,.string ⟨#[98,97,115,101]⟩,.int .i64 100,.int .i64 1,.int .i64 1,.int .i64 0,.int .i64 6,.string ⟨#[]⟩,.int .i64 30,.int .i64 1,.int .i64 1,.int .i64 0,.int .i64 9,.string ⟨#[]⟩,.int .i64 70] from rfl] at hL hbelL
 generalize w.alloc (Obj.cells _ _) = W at hL hbelL ⊢
 refine (base_any _).mono ?_
 rintro e w1 ⟨A1,c1,rfl,hS1,hb1⟩
 go_wp2_with fail
 have hcon:=Entries_any A1 (some ⟨w.heap.size,0,none⟩) c1 3 baW awP w1 hS1 (by decide) (by simp [baW]) (hL.adv hb1) (by decide) (by simp [awP])
 have HC:=Lib.hid hcon
 clear hcon
 refine Calls.mono HC.out ?_
 rintro e w2 ⟨A2,c2,rfl,hS2,hlc2,hcm2,hb2⟩
 rw [aw1]
 rw [aw2] at hS2 hlc2 ⊢
 have hbel2:=bel_adv (bel_adv hbelL hb1) hb2
 clear HC hS1 hb1 hb2 hL hbelL
 have hS2':=hS2
 obtain ⟨b,off,rfl,hb,hc⟩:=hS2 (by simp [awB])
 have d0:=hc 0 _ rfl 0 _ rfl
 have d1:=hc 0 _ rfl 1 _ rfl
 have d2:=hc 0 _ rfl 2 _ rfl
 have d8:=hc 2 _ rfl 2 _ rfl
 simp only [Nat.zero_mul,Nat.add_zero,Nat.reduceMul,Nat.add_assoc,Nat.reduceAdd] at d0 d1 d2 d8
 clear hc
 have hcon:=balanced_any (some ⟨b,off,none⟩) c2 awB w2 hS2' (by simp [awB])
 rw [aw3] at hcon
 have HC:=Lib.hid hcon
 clear hcon hS2'
 go_wp2_with fail
 refine Calls.mono HC.out ?_
 rintro e w3 ⟨rfl,hb3⟩
 go_wp2
 go_ret
 exact ⟨rfl,bel_adv hbel2 hb3⟩
end Go.Proofs.YtjncpgbhokjbfaaGreat
namespace Go.Proofs.YtjncpgbhokjbfaaGreat
open Go.RowKit
set_option maxHeartbeats 2000000 in
theorem form34_any (x:LineT) (w:World) (hz:x.code.size≤maxLen) :
  Calls Tryz.prog 120 #[.agg #[.int .i64 x.kind,.string x.code,.int .i64 x.amount]] w fun e w'=>e = .returned (.bool (formZ x))∧Below w.heap.size w w':=by
 have hB:=Blk.new w 53 #[.int .i64 x.kind,.string x.code,.int .i64 x.amount]
 by_cases h0:x.amount = 0
 ·
  have hn:(x.amount != 0) = false:=by simp [h0]
  have HF:Hid (formZ x = false):=by simp [Hid,formZ,h0]
  clear h0
  go_enter Tryz.func120,Tryz.ntmps120
  go_wp2
  go_ret
  exact ⟨by rw [HF.out]; rfl,below_new _ _⟩
 ·
  have hn:(x.amount != 0) = true:=by simp [h0]
  have HF:Hid (formZ x = formB x):=by simp [Hid,formZ,h0]
  clear h0
  go_enter Tryz.func120,Tryz.ntmps120
  go_wp2_with fail
  refine (form32_any x _ hz).mono ?_
  rintro e w1 ⟨rfl,hb1⟩
  go_wp2
  go_ret
  exact ⟨by rw [HF.out]; rfl,bel_adv (below_new w _) hb1⟩
set_option maxHeartbeats 2000000 in
theorem valid35_any (p:PostT) (w:World) (hz:p.line.code.size≤maxLen) :
  Calls Tryz.prog 68 #[.agg #[.int .i64 p.run,.int .i64 p.employee,.int .i64 p.period,.int .i64 p.line.kind,.string p.line.code,.int .i64 p.line.amount]] w fun e w'=>e = .returned (.bool (validP p))∧Below w.heap.size w w':=by
 have HB:Hid (validP p = ((decide (1≤p.run) && decide (p.run≤256)) && ((decide (1≤p.employee) && decide (p.employee≤2147483647)) && ((decide (0≤p.period) && decide (p.period≤84005)) && formZ p.line)))):=rfl
 by_cases c0:1≤p.run
 rotate_left
 ·
  have HF:Hid (validP p = false):=by rw [Hid,HB.out]; simp [*]
  go_enter Tryz.func68,Tryz.ntmps68
  go_wp2
  go_ret
  exact ⟨by rw [HF.out]; rfl,below_new _ _⟩
 by_cases c1:p.run≤256
 rotate_left
 ·
  have HF:Hid (validP p = false):=by rw [Hid,HB.out]; simp [*]
  go_enter Tryz.func68,Tryz.ntmps68
  go_wp2
  go_ret
  exact ⟨by rw [HF.out]; rfl,below_new _ _⟩
 by_cases c2:1≤p.employee
 rotate_left
 ·
  have HF:Hid (validP p = false):=by rw [Hid,HB.out]; simp [*]
  go_enter Tryz.func68,Tryz.ntmps68
  go_wp2
  go_ret
  exact ⟨by rw [HF.out]; rfl,below_new _ _⟩
 by_cases c3:p.employee≤2147483647
 rotate_left
 ·
  have HF:Hid (validP p = false):=by rw [Hid,HB.out]; simp [*]
  go_enter Tryz.func68,Tryz.ntmps68
  go_wp2
  go_ret
  exact ⟨by rw [HF.out]; rfl,below_new _ _⟩
 by_cases c4:0≤p.period
 rotate_left
 ·
  have HF:Hid (validP p = false):=by rw [Hid,HB.out]; simp [*]
  go_enter Tryz.func68,Tryz.ntmps68
  go_wp2
  go_ret
  exact ⟨by rw [HF.out]; rfl,below_new _ _⟩
 by_cases c5:p.period≤84005
 rotate_left
 ·
  have HF:Hid (validP p = false):=by rw [Hid,HB.out]; simp [*]
  go_enter Tryz.func68,Tryz.ntmps68
  go_wp2
  go_ret
  exact ⟨by rw [HF.out]; rfl,below_new _ _⟩
 skip
 have HF:Hid (validP p = formZ p.line):=by rw [Hid,HB.out]; simp [*]
 go_enter Tryz.func68,Tryz.ntmps68
 go_wp2_with fail
 refine (form34_any p.line _ hz).mono ?_
 rintro e w1 ⟨rfl,hb1⟩
 go_wp2
 go_ret
 exact ⟨by rw [HF.out]; rfl,bel_adv (below_new w _) hb1⟩
theorem bookB_len {xs:List PostT} (h:65536 < xs.length) : bookB xs = false:=by
 cases hh:bookB xs
 ·
  rfl
 ·
  have:=((bookB_iff xs).1 hh).1; omega
theorem bookB_bad {xs:List PostT} {k:Nat} (hk:k < xs.length) (h:validP xs[k] = false) : bookB xs = false:=by
 cases hh:bookB xs
 ·
  rfl
 ·
  have:=((bookB_iff xs).1 hh).2.2 _ (List.getElem_mem hk)
  rw [this] at h; cases h
theorem bookB_dn {xs:List PostT} {k:Nat} (hk:k+1 < xs.length) (h:xs[k+1].run < xs[k].run) : bookB xs = false:=by
 cases hh:bookB xs
 ·
  rfl
 ·
  have:=((bookB_iff xs).1 hh).2.1 k hk
  omega
set_option maxRecDepth 100000 in
set_option maxHeartbeats 4000000 in
theorem book35_any (A:Option Addr) (c:Nat) (xs:List PostT) (w:World) (h:SliceOf encP 6 w w.heap.size A xs) (hl:xs.length≤9223372036854775806) (hz : ∀ x ∈ xs,x.line.code.size≤maxLen) :
  Calls Tryz.prog 36 #[.slice A xs.length c] w fun e w'=>e = .returned (.bool (bookB xs))∧Below w.heap.size w w':=by
 have HZ:=Lib.hid hz; clear hz
 by_cases h6:65536 < xs.length
 ·
  have HF:=Lib.hid (bookB_len h6)
  go_enter Tryz.func36,Tryz.ntmps36
  go_wp2
  go_ret
  exact ⟨by rw [HF.out]; rfl,Below.refl _ _⟩
 go_enter Tryz.func36,Tryz.ntmps36
 go_wp2_with fail
 go_loopw [3] (fun i wr=>∃ k:Nat,k≤xs.length∧i = .int .i64 k∧Hid (∀ j,(hj:j < xs.length)→j < k→validP xs[j] = true)∧Hid (∀ j,(hj:j+1 < xs.length)→j+1 < k→xs[j].run≤xs[j+1].run)∧Below w.heap.size w wr) (fun i _=>xs.length - (intOf i).toNat)
 case atStart=>exact ⟨0,by omega,rfl,fun j _ hj=>absurd hj (by omega),fun j _ hj=>absurd hj (by omega),Below.refl _ _⟩
 case round =>
  obtain ⟨k,hk,rfl,hall,hasc,hbel⟩:=hrel
  by_cases hlt:k < xs.length
  ·
   have hS:=h.adv hbel
   obtain ⟨b,off,hA0,hb,hc⟩:=hS.at_ hlt
   have c0:=hc 0 _ rfl
   have c1:=hc 1 _ rfl
   have c2:=hc 2 _ rfl
   have c3:=hc 3 _ rfl
   have c4:=hc 4 _ rfl
   have c5:=hc 5 _ rfl
   simp only [Nat.add_zero] at c0
   have e0:=Bw.cell (w:=wr) (a:=⟨b,off+k * 6,none⟩) (by exact hb) c0
   have e1:=Bw.cell (w:=wr) (a:=⟨b,off+k * 6+1,none⟩) (by exact hb) c1
   have e2:=Bw.cell (w:=wr) (a:=⟨b,off+k * 6+2,none⟩) (by exact hb) c2
   have e3:=Bw.cell (w:=wr) (a:=⟨b,off+k * 6+3,none⟩) (by exact hb) c3
   have e4:=Bw.cell (w:=wr) (a:=⟨b,off+k * 6+4,none⟩) (by exact hb) c4
   have e5:=Bw.cell (w:=wr) (a:=⟨b,off+k * 6+5,none⟩) (by exact hb) c5
   have HV:=Lib.hid (fun p:Bw wr=>Bw.call p (valid35_any xs[k] p.w' (HZ.out _ (List.getElem_mem hlt))))
   have hi1:(k:Int) < (xs.length:Int):=by omega
   subst hA0
   clear hc c0 c1 c2 c3 c4 c5
   by_cases hv:validP xs[k] = true
   rotate_left
   ·
    have hv':validP xs[k] = false:=by simpa using hv
    have HF:=Lib.hid (bookB_bad hlt hv')
    rw [hv'] at HV
    clear hv hv'
    go_wp2_with fail
    refine wp_region_below (by kernel_rfl) (by kernel_rfl) ?_
    repeat (first | go_big_quiet_step (with_reducible exact HV.out _) | quiet_step (with_reducible exact HV.out _))
    refine wpQuiet_nil ?_
    intro W2 hw'
    obtain ⟨⟨W9,hW2⟩,hw''⟩:=hw'
    subst hw''
    clear HV e0 e1 e2 e3 e4 e5
    go_wp2
    go_ret
    exact ⟨by rw [HF.out]; rfl,bel_adv hbel hW2⟩
   have HALL:Hid (∀ j,(hj:j < xs.length)→j < k+1→validP xs[j] = true):=fun j hj hjk=>by
    rcases Nat.lt_or_ge j k with h1 | h1
    ·
     exact hall.out j hj h1
    ·
     obtain rfl:j = k:=by omega
     exact hv
   rw [hv] at HV
   rcases Nat.eq_zero_or_pos k with hk0 | hk0
   ·
    have hz0:decide (0 < (k:Int)) = false:=by simp; omega
    have hz1:decide (0 < k) = false:=by simp; omega
    have hz2:¬ 0 < k:=by omega
    have hz3:(k:Int)≤0:=by omega
    have HASC:Hid (∀ j,(hj:j+1 < xs.length)→j+1 < k+1→xs[j].run≤xs[j+1].run):=fun j hj hjk=>absurd hjk (by omega)
    clear hv hk0
    go_wp2_with fail
    refine wp_region_below (by kernel_rfl) (by kernel_rfl) ?_
    repeat (first | go_big_quiet_step (with_reducible exact HV.out _) | quiet_step (with_reducible exact HV.out _))
    refine wpQuiet_nil ?_
    intro W2 hw'
    obtain ⟨⟨W9,hW2⟩,hw''⟩:=hw'
    subst hw''
    clear HV e0 e1 e2 e3 e4 e5 hz0 hz1 hz3
    go_wp2
    go_roundw
    case rel=>exact ⟨k+1,by omega,by go_num,HALL,HASC,bel_adv hbel hW2⟩
    case measure=>simp [intOf]; omega
   obtain ⟨m,rfl⟩ : ∃ m,k = m+1:=⟨k - 1,by omega⟩
   obtain ⟨b',off',hA',hb',hc'⟩:=hS.at_ (show m < xs.length by omega)
   injection hA' with hA'
   injection hA' with h1 h2
   subst h1 h2
   have d0:=hc' 0 _ rfl
   simp only [Nat.add_zero] at d0
   have p0:=Bw.cell (w:=wr) (a:=⟨b,off+m * 6,none⟩) (by exact hb) d0
   have hm0:decide (0 < ((m+1:Nat) : Int)) = true:=by rw [decide_eq_true_eq]; omega
   have hm1:decide (0 < (m:Int)+1) = true:=by rw [decide_eq_true_eq]; omega
   have em:((m+1:Nat) : Int) - 1 = (m:Int):=by omega
   have hi2:(m:Int) < (xs.length:Int):=by omega
   clear hc' d0
   by_cases hr:xs[m+1].run < xs[m].run
   ·
    have hr':decide (xs[m+1].run < xs[m].run) = true:=by simpa using hr
    have HF:=Lib.hid (bookB_dn hlt hr)
    clear hr hv
    go_wp2_with fail
    refine wp_region_below (by kernel_rfl) (by kernel_rfl) ?_
    repeat (first | go_big_quiet_step (with_reducible exact HV.out _) | quiet_step (with_reducible exact HV.out _))
    refine wpQuiet_nil ?_
    intro W2 hw'
    obtain ⟨⟨W9,hW2⟩,hw''⟩:=hw'
    subst hw''
    clear HV e0 e1 e2 e3 e4 e5 p0
    go_wp2
    go_ret
    exact ⟨by rw [HF.out]; rfl,bel_adv hbel hW2⟩
   ·
    have hr':decide (xs[m+1].run < xs[m].run) = false:=by simpa using hr
    have HASC:Hid (∀ j,(hj:j+1 < xs.length)→j+1 < m+1+1→xs[j].run≤xs[j+1].run):=fun j hj hjk=>by
     rcases Nat.lt_or_ge (j+1) (m+1) with h1 | h1
     ·
      exact hasc.out j hj h1
     ·
      obtain rfl:j = m:=by omega
      omega
    clear hr hv
    go_wp2_with fail
    refine wp_region_below (by kernel_rfl) (by kernel_rfl) ?_
    repeat (first | go_big_quiet_step (with_reducible exact HV.out _) | quiet_step (with_reducible exact HV.out _))
    refine wpQuiet_nil ?_
    intro W2 hw'
    obtain ⟨⟨W9,hW2⟩,hw''⟩:=hw'
    subst hw''
    clear HV e0 e1 e2 e3 e4 e5 p0
    go_wp2
    go_roundw
    case rel=>exact ⟨m+1+1,by omega,by go_num,HALL,HASC,bel_adv hbel hW2⟩
    case measure=>simp [intOf]; omega
  ·
   have HF:Hid (bookB xs = true):=(bookB_iff xs).2 ⟨by omega,fun i hi=>hasc.out i hi (by omega),fun x hx=>by
    obtain ⟨i,hi,rfl⟩:=List.getElem_of_mem hx
    exact hall.out i hi (by omega)⟩
   obtain rfl:k = xs.length:=by omega
   go_wp2
   go_ret
   exact ⟨by rw [HF.out]; rfl,hbel⟩
end Go.Proofs.YtjncpgbhokjbfaaGreat
namespace Go.Proofs.YtjncpgbhokjbfaaGreat
open Go.RowKit
theorem selL_take (e p : Int) (xs:List PostT) (k:Nat) (h:k < xs.length) : selL e p (xs.take (k+1)) = selL e p (xs.take k)++if selB e p xs[k] = true then [xs[k].line] else []:=by
 rw [List.take_succ_eq_append_getElem h,selL_append]
 congr 1
 unfold selL
 split <;> rename_i hh <;> simp [hh]
set_option maxRecDepth 100000 in
set_option maxHeartbeats 2000000 in
theorem result35_any (A:Option Addr) (c:Nat) (em pe : Int) (xs:List PostT) (w:World) (h:SliceOf encP 6 w w.heap.size A xs) (hl:xs.length≤65536) (hz : ∀ x ∈ xs,x.line.code.size≤maxLen) (hbk:bookB xs = true) :
  Calls Tryz.prog 20 #[.slice A xs.length c,.int .i64 em,.int .i64 pe] w fun e w'=>∃ B d,e = .returned (.slice B (mR (selL em pe xs)).length d)∧SliceOf encL 3 w' w'.heap.size B (mR (selL em pe xs))∧(∀ a,B = some a→w.heap.size≤a.block)∧Below w.heap.size w w':=by
 have HZ:=Lib.hid hz
 have HBK:=Lib.hid hbk
 clear hz hbk
 go_enter Tryz.func20,Tryz.ntmps20
 go_wp2_with fail
 refine (book35_any A c xs _ h (by omega) HZ.out).mono ?_
 rintro e w1 ⟨rfl,hb1⟩
 rw [HBK.out]
 go_wp2
 go_loopw [7,8] (fun v i wr=>∃ k:Nat,i = .int .i64 k∧k≤xs.length∧Own encL 3 53 wr w.heap.size v (selL em pe (xs.take k))∧Below w.heap.size w wr) (fun _ i _=>xs.length - (intOf i).toNat)
 case atStart=>exact ⟨0,rfl,by omega,Own.nil_ _ _,hb1⟩
 case round =>
  obtain ⟨k,rfl,hkl,hown,hbel⟩:=hrel
  have hbs:=hbel.size
  by_cases hlt:k < xs.length
  ·
   obtain ⟨b,off,rfl,hb,hc⟩:=(h.below hbel).at_ hlt
   have c1:=hc 1 _ rfl
   have c2:=hc 2 _ rfl
   have c3:=hc 3 _ rfl
   have c4:=hc 4 _ rfl
   have c5:=hc 5 _ rfl
   clear hc
   have hfl:(selL em pe (xs.take k)).length < 4294967296:=by
    have h1:=List.length_filter_le (selB em pe) (xs.take k)
    have h2:(xs.take k).length≤k:=by simp; omega
    unfold selL
    rw [List.length_map]
    omega
   have HT:=Lib.hid (selL_take em pe xs k hlt)
   rcases he:(xs[k].employee == em) with _ | _
   ·
    have hs:selB em pe xs[k] = false:=by simp [selB,he]
    have HS:=Lib.hid hs
    clear hs
    go_wp2_with fail
    go_roundw
    case rel=>exact ⟨k+1,by go_num,by omega,by rw [HT.out,HS.out]; simpa using hown,hbel⟩
    case measure=>simp [intOf]; omega
   ·
    rcases hp:(xs[k].period == pe) with _ | _
    ·
     have hs:selB em pe xs[k] = false:=by simp [selB,hp]
     have HS:=Lib.hid hs
     clear hs
     go_wp2_with fail
     go_roundw
     case rel=>exact ⟨k+1,by go_num,by omega,by rw [HT.out,HS.out]; simpa using hown,hbel⟩
     case measure=>simp [intOf]; omega
    ·
     have hs:selB em pe xs[k] = true:=by simp [selB,he,hp]
     have HS:=Lib.hid hs
     clear hs
     go_wp2_with (at_builtin; (refine wpList_append_one _ _ 39 xs[k].line _ 32 _ infoL Tryz.underlying39 hown encL_len (by omega) rfl (encL_one _) hfl (by omega) hbs (by rfl) (by rfl) (by rfl) (by rfl) (by simp) (by rfl) ?_); intro v2 w6 hown7 hg7)
     have hr6:=fun q hq=>(hown.block_lt (g:=q) hq).1
     have hb7:Below w.heap.size w w6:=bel_only hbel hg7 (fun g e=>hr6 g e)
     go_roundw
     case rel=>exact ⟨k+1,by go_num,by omega,by rw [HT.out,HS.out]; simpa using hown7,hb7⟩
     case measure=>simp [intOf]; omega
  ·
   have ek:xs.take k = xs:=List.take_of_length_le (by omega)
   rw [ek] at hown
   clear ek
   obtain ⟨A5,c5,rfl,hS5,hB5,hlc5,hcm5⟩:=hown.form2 encL_len
   have hz:Hid (∀ x ∈ selL em pe xs,x.code.size≤maxLen):=fun x hx=>by
    obtain ⟨y,hy,rfl⟩:=List.mem_map.1 hx
    exact HZ.out y (List.mem_filter.1 hy).1
   have hll:(selL em pe xs).length≤65536:=by
    have h1:=List.length_filter_le (selB em pe) xs
    unfold selL
    rw [List.length_map]
    omega
   generalize hls:selL em pe xs = ls at *
   have HLS:=Lib.hid hls
   clear hls
   go_wp2_with fail
   refine (merge34_any A5 c5 ls _ hS5 hz.out (by omega)).mono ?_
   rintro e w8 ⟨v8,rfl,hown8,hb8⟩
   obtain ⟨A8,c8,rfl,hS8,hB8,_,_⟩:=hown8.form2 encL_len
   have hF8:∀ a,A8 = some a→w.heap.size≤a.block:=fun a ha=>Nat.le_trans hbs (hB8 a ha)
   clear hown8 hB8
   go_wp2
   go_ret
   exact ⟨A8,c8,by rw [HLS.out]; rfl,by rw [HLS.out]; exact hS8,hF8,bel_adv hbel hb8⟩
end Go.Proofs.YtjncpgbhokjbfaaGreat
namespace Go.Proofs.YtjncpgbhokjbfaaGreat
open Go.RowKit
def cellsC8 : Array Value:=#[.string ⟨#[97]⟩,.string ⟨#[97,98,99,100,101,102,103,104,105,106,107,108,109,110,111,112,113,114,115,116,117,118,119,120]⟩,.string ⟨#[98]⟩,.string ⟨#[98,111,110,117,115]⟩,.string ⟨#[99,97,114]⟩,.string ⟨#[110,105,103,104,116]⟩,.string ⟨#[115,97,108,97,114,121]⟩,.string ⟨#[120,49]⟩]
def listC8 : List ByteArray:=[⟨#[97]⟩,⟨#[97,98,99,100,101,102,103,104,105,106,107,108,109,110,111,112,113,114,115,116,117,118,119,120]⟩,⟨#[98]⟩,⟨#[98,111,110,117,115]⟩,⟨#[99,97,114]⟩,⟨#[110,105,103,104,116]⟩,⟨#[115,97,108,97,114,121]⟩,⟨#[120,49]⟩]
def atC8 (k:Nat) : ByteArray:=listC8.getD k ⟨#[]⟩
def wageC8 (k:Nat) : WageT:=⟨atC8 k,1,false,false,false,4000+(k:Int) / 2⟩
def wages8 : List WageT:=(List.range 8).map wageC8
theorem wages8_take (k:Nat) (h:k < 8) : wages8.take (k+1) = wages8.take k++[wageC8 k]:=by
 have hl:k < wages8.length:=by simpa [wages8] using h
 rw [List.take_succ_eq_append_getElem hl]
 simp [wages8]
theorem cellsC8_at (k:Nat) (h:k < 8) : cellsC8[k]? = some (.string (atC8 k)):=by
 match k,h with
 | 0,_=>rfl
 | 1,_=>rfl
 | 2,_=>rfl
 | 3,_=>rfl
 | 4,_=>rfl
 | 5,_=>rfl
 | 6,_=>rfl
 | 7,_=>rfl
theorem wages8_len : wages8.length = 8:=by simp [wages8]
theorem wages8_size : ∀ x ∈ wages8,x.code.size≤maxLen:=by
 have h:∀ x ∈ wages8,x.code.size≤24:=by decide +kernel
 exact fun x hx=>Nat.le_trans (h x hx) (by unfold maxLen; omega)
set_option maxRecDepth 100000 in
set_option maxHeartbeats 2000000 in
theorem wages44_any (w:World) : Calls Tryz.prog 8 #[] w fun e w'=>∃ A c,e = .returned (.slice A wages8.length c)∧SliceOf encW 6 w' w'.heap.size A wages8∧Below w.heap.size w w':=by
 go_enter Tryz.func8,Tryz.ntmps8
 go_wp2_with fail
 rw [show Obj.cells #[.string ⟨#[97]⟩,.string ⟨#[97,98,99,100,101,102,103,104,105,106,107,108,109,110,111,112,113,114,115,116,117,118,119,120]⟩,.string ⟨#[98]⟩,.string ⟨#[98,111,110,117,115]⟩,.string ⟨#[99,97,114]⟩,.string ⟨#[110,105,103,104,116]⟩,.string ⟨#[115,97,108,97,114,121]⟩,.string ⟨#[120,49]⟩] 9 = Obj.cells cellsC8 9 from rfl]
 go_loopw [1,6] (fun v i wr=>∃ k:Nat,k≤8∧i = .int .i64 k∧Own encW 6 61 wr (w.heap.size+1) v (wages8.take k)∧Blk wr w.heap.size 9 cellsC8∧Below w.heap.size w wr) (fun _ i _=>8 - (intOf i).toNat)
 case atStart=>exact ⟨0,by omega,rfl,Own.nil_ _ _,Blk.new _ _ _,below_new _ _⟩
 case round =>
  obtain ⟨k,hk,rfl,hown,hblk,hbel⟩:=hrel
  by_cases hlt:k < 8
  ·
   have c0:=(hblk.cell k).trans (cellsC8_at k hlt)
   have hlk:(wages8.take k).length≤8:=by simp [wages8]; omega
   have hsz:=hblk.lt
   have HT:=Lib.hid (wages8_take k hlt)
   have hr7:=fun g hg=>(hown.block_lt (g:=g) hg).1
   go_wp2_with (at_builtin; (refine wpList_append_one _ _ 31 (⟨atC8 k,1,false,false,false,4000+(k:Int) / 2⟩ : WageT) _ 40 _ infoW Tryz.underlying31 hown encW_len (by omega) rfl (encW_one _) (by omega) (by omega) (by omega) (by rfl) (by rfl) (by rfl) (by rfl) (by simp) (by rfl) ?_); intro v2 w6 hown6 hg6)
   go_roundw
   case rel =>
    have hf:∃ k':Nat,k'≤8∧Value.int .i64 ((k:Int)+1) = .int .i64 k'∧Own encW 6 61 w6 (w.heap.size+1) v2 (wages8.take k')∧Blk w6 w.heap.size 9 cellsC8∧Below w.heap.size w w6 :=
     ⟨k+1,by omega,by go_num,by rw [HT.out]; exact hown6,hblk.grown hg6 (fun e=>by have:=hr7 _ e.symm; omega),bel_only hbel hg6 (fun q e=>by have:=hr7 q e; omega)⟩
    first | exact hf | ((repeat apply Exists.intro); exact ⟨hf,rfl⟩)
   case measure=>simp [intOf]; omega
  ·
   obtain rfl:k = 8:=by omega
   rw [show wages8.take 8 = wages8 from rfl] at hown
   obtain ⟨A5,c5,rfl,hS5,hB5,hlc5,hcm5⟩:=hown.form2 encW_len
   go_wp2
   go_ret
   exact ⟨A5,c5,rfl,hS5,hbel⟩
end Go.Proofs.YtjncpgbhokjbfaaGreat
