/- Joined texts: MergeB EntW. Conditions: as stated. -/
import Derived.RegionTactic
import Derived.BigRegion
import Derived.Test.YtjncpgbhokjbfaaGreatJ51
namespace Go.Proofs.YtjncpgbhokjbfaaGreat
open Go.RowKit Go.Sort Go.Shelf Go.Maps Go.WideMaps Go.WideElems Go.ChangeMaps
theorem zeroI (w:World) : (zeroValue 3).run Tryz.prog w = .ok (.int .i64 0) w:=by kernel_rfl
theorem keyedB : Keyed Tryz.prog 64:=Keyed.of_law lawB
abbrev mkB (c:KeyB) : Value:=.agg #[.int .i64 c.1,.int .i64 c.2.1,.int .i64 c.2.2]
def BPost (m:List BookT) (er:Int) (w:World) (e:Ending) (w' : World) : Prop :=
 ∃ A cap,e = .returned (.tuple #[.slice A m.length cap,.int .i64 er])∧SliceOf encB 3 w' w'.heap.size A m∧m.length≤cap∧cap≤maxLen∧Below w.heap.size w w'
theorem BPost.fail {m:List BookT} {er n : Int} {w W : World} (hm:m = []) (he:er = n) (hb:Below w.heap.size w W) : BPost m er w (.returned (.tuple #[.slice none 0 0,.int .i64 n])) W:=by
 subst hm he
 exact ⟨none,0,rfl,SliceOf.nil_,by simp,by unfold maxLen; omega,hb⟩
set_option maxHeartbeats 1000000 in
theorem total_any (n:Int) (w:World) : Calls Tryz.prog 42 #[.int .i64 n] w fun e w'=>e = .returned (.bool (maxN n))∧w = w':=by
 by_cases h1 : -1000000000000≤n <;> by_cases h2:n≤1000000000000
 all_goals
  have hb:maxN n = (decide (-1000000000000≤n) && decide (n≤1000000000000)):=by simp [maxN]
  have HB:=Lib.hid hb; clear hb
  go_enter Tryz.func42,Tryz.ntmps42
  go_wp2
  go_ret
  exact ⟨by rw [HB.out]; simp [h1,h2],rfl⟩
set_option maxHeartbeats 2000000 in
theorem validB_any (x:BookT) (w:World) : Calls Tryz.prog 41 #[.agg #[.int .i64 x.run,.int .i64 x.account,.int .i64 x.amount]] w fun e w'=>e = .returned (.bool (okB x))∧Below w.heap.size w w':=by
 have HB:Hid (okB x = ((decide (0≤x.run) && decide (x.run≤256)) && (decide (100≤x.account) && decide (x.account≤9999)) && maxN x.amount)):=rfl
 by_cases c0:0≤x.run
 rotate_left
 ·
  have HF:Hid (okB x = false):=by rw [Hid,HB.out]; simp [*]
  go_enter Tryz.func41,Tryz.ntmps41
  go_wp2
  go_ret
  exact ⟨by rw [HF.out]; rfl,below_new _ _⟩
 by_cases c1:x.run≤256
 rotate_left
 ·
  have HF:Hid (okB x = false):=by rw [Hid,HB.out]; simp [*]
  go_enter Tryz.func41,Tryz.ntmps41
  go_wp2
  go_ret
  exact ⟨by rw [HF.out]; rfl,below_new _ _⟩
 by_cases c2:100≤x.account
 rotate_left
 ·
  have HF:Hid (okB x = false):=by rw [Hid,HB.out]; simp [*]
  go_enter Tryz.func41,Tryz.ntmps41
  go_wp2
  go_ret
  exact ⟨by rw [HF.out]; rfl,below_new _ _⟩
 by_cases c3:x.account≤9999
 rotate_left
 ·
  have HF:Hid (okB x = false):=by rw [Hid,HB.out]; simp [*]
  go_enter Tryz.func41,Tryz.ntmps41
  go_wp2
  go_ret
  exact ⟨by rw [HF.out]; rfl,below_new _ _⟩
 skip
 have HF:Hid (okB x = maxN x.amount):=by rw [Hid,HB.out]; simp [*]
 go_enter Tryz.func41,Tryz.ntmps41
 go_wp2_with (go_at_call 42; refine (total_any _ _).mono ?_; rintro e w' ⟨rfl,rfl⟩)
 go_ret
 exact ⟨by rw [HF.out]; rfl,below_new _ _⟩
theorem goodB_of {x:BookT} (h:okB x = true) : goodB (RB.key x):=by
 obtain ⟨⟨h1,h2⟩,⟨h3,h4⟩,_⟩:=(okB_iff x).1 h
 exact ⟨wf64 (by show _≤x.run; omega) (by show x.run≤_; omega),wf64 (by show _≤x.account; omega) (by show x.account≤_; omega),wf64 (by show _≤(0:Int); omega) (by show (0:Int)≤_; omega)⟩
theorem hasB_good {xs:List BookT} (h : ∀ x ∈ xs,okB x = true) : ∀ c,RB.has xs c = true→goodB c:=fun c hc=>by
 obtain ⟨x,hx,e⟩:=List.any_eq_true.1 hc
 have e':RB.key x = c:=by simpa using e
 rw [← e']
 exact goodB_of (h x hx)
theorem hasB_zero {xs:List BookT} {c:KeyB} (h:RB.has xs c = true) : c.2.2 = 0:=by
 obtain ⟨x,hx,e⟩:=List.any_eq_true.1 h
 have e':RB.key x = c:=by simpa using e
 rw [← e']; rfl
set_option maxRecDepth 100000 in
set_option maxHeartbeats 4000000 in
theorem mergeB_any (A:Option Addr) (cap:Nat) (xs:List BookT) (w:World) (h:SliceOf encB 3 w w.heap.size A xs) (hl:xs.length≤9223372036854775806) :
  Calls Tryz.prog 24 #[.slice A xs.length cap] w (BPost (mRB xs) (mErrB xs) w):=by
 have hmm:=@run_makeMap Tryz.prog
 by_cases hlen:131072 < xs.length
 ·
  have HP:=Lib.hid (mErrB_3 hlen)
  go_enter Tryz.func24,Tryz.ntmps24
  go_wp2
  go_ret2
  exact BPost.fail (mRB_no HP.out (by omega)) HP.out (Below.refl _ _)
 ·
  have hlen':xs.length≤131072:=by omega
  clear hlen hl
  go_enter Tryz.func24,Tryz.ntmps24
  go_wp2
  have hmap0:(w.alloc (.map #[] 0)).ownsMap Tryz.prog 64 (plainElem (H:=Unit) Tryz.prog 3) w.heap.size 0 (.map []):=World.ownsMap_made _ _ _ _
  have hbel0:Below w.heap.size w (w.alloc (.map #[] 0)):=below_new _ _
  go_loopw [16] (fun i wr=>∃ (k:Nat) (D:DataW Unit),k≤xs.length∧i = .int .i64 k∧Hid (∀ x ∈ xs.take k,okB x = true)∧wr.ownsMap Tryz.prog 64 (plainElem (H:=Unit) Tryz.prog 3) w.heap.size k D∧MapG litB goodB D (RB.has (xs.take k)) (RB.tot (xs.take k))∧Below w.heap.size w wr) (fun i _=>xs.length - (intOf i).toNat)
  case atStart=>exact ⟨0,.map [],by omega,rfl,(fun x hx=>by simp at hx),hmap0,MapG.empty,hbel0⟩
  case round =>
   clear hmap0 hbel0
   obtain ⟨k,D,hk,rfl,hall,hown,hD,hbel⟩:=hrel
   have hbs:=hbel.size
   have hml:=hown.lt
   by_cases hlt:k < xs.length
   ·
    obtain ⟨b,off,rfl,hb,hc⟩:=(h.below hbel).at_ hlt
    have c0:=hc 0 _ rfl
    have c1:=hc 1 _ rfl
    have c2:=hc 2 _ rfl
    simp only [Nat.add_zero] at c0
    clear hc
    go_wp2_with fail
    refine (validB_any xs[k] _).mono ?_
    rintro e w1 ⟨rfl,hb1⟩
    have hB1:=(Blk.new wr _ _).adv hb1
    have hown1:=(hown.alloc (Obj.cells #[.int .i64 xs[k].run,.int .i64 xs[k].account,.int .i64 xs[k].amount] 64)).kept (only_of_below hb1 none) (by simp)
    have hbel1:=bel_adv (bel_alloc hbel _) hb1
    clear hb1 hown
    rcases hf:okB xs[k] with _ | _
    ·
     have HP:=Lib.hid (mErrB_2 (l:=xs) (by omega) (by rw [List.all_eq_false]; exact ⟨xs[k],List.getElem_mem _,by simp [hf]⟩))
     clear hf
     go_wp2
     go_ret2
     exact BPost.fail (mRB_no HP.out (by omega)) HP.out hbel1
    ·
     obtain ⟨_,_,ha1,ha2⟩:=(okB_iff _).1 hf
     have hgd:=goodB_of hf
     have hall1:∀ x ∈ xs.take (k+1),okB x = true:=by
      intro x hx
      rw [List.take_succ_eq_append_getElem hlt] at hx
      rcases List.mem_append.1 hx with hx | hx
      ·
       exact hall.out x hx
      ·
       simp at hx; subst hx; exact hf
     have HALL:=Lib.hid hall1
     have hTb:=Rec.tot_bd (R:=RB) (xs.take k) (RB.key xs[k]) 1000000000000 (by omega) (fun x hx=>((okB_iff x).1 (hall.out x hx)).2.2)
     have hTl:(xs.take k).length≤131072:=by simp; omega
     have hT1 : -200000000000000000≤RB.tot (xs.take k) (RB.key xs[k]):=by omega
     have hT2:RB.tot (xs.take k) (RB.key xs[k])≤200000000000000000:=by omega
     have hkey:keyOf Tryz.prog 64 (.agg #[.int .i64 xs[k].run,.int .i64 xs[k].account,.int .i64 0]) = some (litB (RB.key xs[k])):=keyB _ hgd
     obtain ⟨c,st,w3,hlk,hat,hwc,hme,hlk3,hg3,hst⟩:=entry_own lawB Tryz.underlying99 Tryz.underlying3 zeroI hown1.drew (by unfold maxLen; omega) hD.isMap hkey
     obtain rfl:c = RB.tot (xs.take k) (RB.key xs[k]):=by
      have h1:=hD.at_ _ hgd
      rw [hat] at h1
      injection h1 with h1
      injection h1
     obtain ⟨w4,hes,hown4,hg4⟩:=hst (RB.tot (xs.take k) (RB.key xs[k])+xs[k].amount) (wf64 (by omega) (by omega))
     have hD1:=hD.put_ (K':=RB.has (xs.take (k+1))) (T':=RB.tot (xs.take (k+1))) keyGB (RB.key xs[k]) hgd (RB.tot (xs.take k) (RB.key xs[k])+xs[k].amount) (Rec.has_take xs k hlt) (fun c=>by
      rw [Rec.tot_take xs k hlt]
      split
      ·
       rename_i e; rw [← e]; rfl
      ·
       omega)
     have HD1:=Lib.hid hD1
     have hB3:Blk w3 wr.heap.size 64 #[.int .i64 xs[k].run,.int .i64 xs[k].account,.int .i64 xs[k].amount]:=Blk.grown (w:=w1.drew) hB1 hg3 (by intro e; injection e; omega)
     have hbel4:Below w.heap.size w w4:=bel_only (below_drewN hbel1 1) hg4 (fun g e=>by injection e; omega)
     have e0:=hB1.cell 0
     have e1:=hB1.cell 1
     have e2:=hB1.cell 2
     simp only [nqg,nqh,nqi] at e0 e1 e2
     have d0:=hB3.cell 0
     have d1:=hB3.cell 1
     have d2:=hB3.cell 2
     simp only [nqg,nqh,nqi] at d0 d1 d2
     have hl1:=hB1.lt
     have hl3:=hB3.lt
     generalize RB.tot (xs.take k) (RB.key xs[k]) = t0 at *
     clear hD hD1 hall hall1 hTb hTl hat hwc hst hkey hgd hB1 hB3 hf hown1 hmm c0 c1 c2
     go_wp2
     go_big_region
     go_wp2
     go_roundw
     case rel=>exact ⟨k+1,_,by omega,by go_num,HALL,hown4,HD1.out,hbel4⟩
     case measure=>simp [intOf]; omega
   ·
    obtain rfl:k = xs.length:=by omega
    have hg0:decide ((xs.length:Int) < (xs.length:Int)) = false:=by simp
    have hg1:decide (xs.length < xs.length) = false:=by simp
    rw [List.take_length] at hD hall
    have hallB:xs.all okB = true:=List.all_eq_true.2 hall.out
    have HM:=Lib.hid (mErrB_4 (l:=xs) (by omega) hallB)
    have HKG:=Lib.hid (hasB_good hall.out)
    obtain ⟨wq,rfl⟩ : ∃ wq:World,wq = wr:=⟨_,rfl⟩
    clear hallB hk hlt hall
    have hsize:Maps.size D≤xs.length:=by
     obtain ⟨es,clock,_,_,hn',rfl⟩:=hown
     rw [Maps.size_eq,length_insertAll]
     simpa using hn'
    go_wp2_with (at_range; refine wpList_range_own _ (by rfl) _ 99 (by rfl) 64 3 keyedB Tryz.underlying99 (plainElem (H:=Unit) Tryz.prog 3) w.heap.size xs.length D (by rfl) hown ?_; intro w0 hrg0 hg0' hs0)
    go_frame
    go_loopw [7] (fun v wr=>∃ left cnt ys,wr.ranges Tryz.prog 64 (plainElem (H:=Unit) Tryz.prog 3) w.heap.size wq.heap.size xs.length D left cnt∧Own encB 3 64 wr (wq.heap.size+1) v ys∧ColG RB litB goodB maxN (RB.has xs) (RB.tot xs) left ys∧ys.length+cnt≤xs.length∧Below wq.heap.size wq wr) (fun _ wr=>wr.rangeLeft w.heap.size wq.heap.size)
    case atStart=>exact ⟨_,_,[],hrg0,Own.nil_ _ _,ColG.start hD,by simpa using hsize,only_below hg0' (Nat.le_refl _) (by simp)⟩
    case round =>
     have HD:=Lib.hid hD
     clear hown hD hsize hrg0 hg0' hs0
     obtain ⟨left,cnt,ys,hrg,hrow,hcol,hlen,hbelq⟩:=hrel
     have hbs:=hbelq.size
     have hrs:=hrg.lt
     go_wp2_with (at_next; refine wpList_next_ranges _ (by rfl) _ (by rfl) 64 keyedB (plainElem (H:=Unit) Tryz.prog 3) mkB (Value.int .i64) (fun key kl hk=>by obtain ⟨c,hx,_⟩:=keyB_inv hk; exact ⟨c,hx⟩) (fun v y hv=>by obtain ⟨c,hc,_⟩:=plainElem_int_inv Tryz.underlying3 hv; exact ⟨c,hc⟩) w.heap.size wq.heap.size xs.length _ _ _ (by rfl) hrg ?_ ?_)
     ·
      intro hc0 hl0
      obtain ⟨A5,c5,rfl,hS5,hB5,hlc5,hcm5⟩:=hrow.form2 encB_len
      go_wp2_with fail
      refine (sortB_any A5 c5 (wq.heap.size+1) ys _ hrow (by omega)).mono ?_
      rintro e w1 ⟨rfl,zs,hp,hsd,hSz,hb1⟩
      have hlz:=hp.length_eq
      obtain ⟨f1,f2,f3⟩:=hcol.done RB_law hl0 HKG.out hp hsd
      have hO:overB (RB.sums xs) = false:=by
       cases hh:overB (RB.sums xs)
       ·
        rfl
       ·
        obtain ⟨c,hc1,hc2⟩:=(Rec.any_iff RB_law maxN (Rec.sums_sorted RB_law xs)).1 hh
        rw [Rec.sums_has RB_law] at hc1
        rw [Rec.sums_tot RB_law,f1 c hc1] at hc2
        cases hc2
      have HP:Hid (mErrB xs = 0):=by rw [Hid,HM.out,hO]; rfl
      have HR:Hid (mRB xs = zs):=by
       rw [Hid,mRB_ok HP.out]
       exact (Rec.filtered_eq RB_law (Rec.sums_sorted RB_law xs) f2 (fun x=>by rw [Rec.sums_has RB_law,Rec.sums_tot RB_law]; exact f3 x)).symm
      have HLZ:=Lib.hid hlz
      clear f1 f2 f3 hO hlz hp hsd
      go_wp2
      go_ret2
      rw [HR.out,HP.out]
      exact ⟨A5,c5,by rw [HLZ.out]; rfl,hSz,by have:=HLZ.out; omega,hcm5,bel_adv hbel (hbelq.trans (hb1.mono (by omega)))⟩
     ·
      intro ka kb km c kl yd yp w2 cnt2 hkey hlk hv hat hrg2 hlt hg2 hs2 hen
      obtain ⟨kc,hx',hgd,rfl⟩:=keyB_inv hkey
      obtain ⟨ka',kb',km'⟩:=kc
      obtain ⟨hx1,hx2,hx3⟩:=agg3_inj hx'
      injection hx1 with _ hx1
      injection hx2 with _ hx2
      injection hx3 with _ hx3
      simp only at hx1 hx2 hx3
      subst hx1 hx2 hx3
      have hyd:yd = i64L c:=by
       obtain ⟨c',h1,h2,_⟩:=plainElem_int_inv Tryz.underlying3 hv
       injection h1 with _ h1
       subst h1
       injection h2
      have hKs:RB.has xs (ka,kb,km) = true:=by rw [← HD.out.has _ hgd]; exact has_true_of_atKey hat
      have hkm:km = 0:=hasB_zero hKs
      subst hkm
      have hTs:RB.tot xs (ka,kb,0) = c:=by
       have h1:=HD.out.at_ _ hgd
       rw [hat,hyd] at h1
       injection h1 with h1
       injection h1 with _ h1
       exact h1.symm
      have hrow2:=hrow.kept hg2 (by intro g e; injection e; omega)
      have hbel2:Below wq.heap.size wq w2:=bel_only hbelq hg2 (by intro g e; injection e; omega)
      have hbs2:=hbel2.size
      have hrs2:=hrg2.lt
      have HT:=Lib.hid hTs
      have HGD:=Lib.hid hgd
      have hgA:=World.grownBy_alloc w2 (Obj.cells #[Value.int IntKind.i64 ka,Value.int IntKind.i64 kb,Value.int IntKind.i64 0] 64) none
      have hrg3:=hrg2.kept hgA (by simp) (by simp)
      have hrow3:=hrow2.alloc (Obj.cells #[Value.int IntKind.i64 ka,Value.int IntKind.i64 kb,Value.int IntKind.i64 0] 64)
      have hbel3:=bel_alloc hbel2 (Obj.cells #[Value.int IntKind.i64 ka,Value.int IntKind.i64 kb,Value.int IntKind.i64 0] 64)
      clear hs2 hat hkey hx' hv hyd hTs hgd
      by_cases ha:maxN c = true
      ·
       have HST:=Lib.hid (hcol.step keyGB HGD.out hlk hKs HT.out ha)
       by_cases hc0:c = 0
       ·
        have hn0:(c != 0) = false:=by simp [hc0]
        have hn1:(c == 0) = true:=by simp [hc0]
        have hcol2:=HST.out.2 hc0
        clear hc0
        go_wp2_with (go_at_call 42; refine (total_any _ _).mono ?_; rintro e w' ⟨rfl,rfl⟩)
        go_roundw
        case rel =>
         have hf:∃ left cnt ys,(w2.alloc (Obj.cells #[Value.int IntKind.i64 ka,Value.int IntKind.i64 kb,Value.int IntKind.i64 0] 64)).ranges Tryz.prog 64 (plainElem (H:=Unit) Tryz.prog 3) w.heap.size wq.heap.size xs.length D left cnt∧Own encB 3 64 (w2.alloc (Obj.cells #[Value.int IntKind.i64 ka,Value.int IntKind.i64 kb,Value.int IntKind.i64 0] 64)) (wq.heap.size+1) u7 ys∧ColG RB litB goodB maxN (RB.has xs) (RB.tot xs) left ys∧ys.length+cnt≤xs.length∧Below wq.heap.size wq (w2.alloc (Obj.cells #[Value.int IntKind.i64 ka,Value.int IntKind.i64 kb,Value.int IntKind.i64 0] 64)):=⟨_,_,ys,hrg3,hrow3,hcol2,by omega,hbel3⟩
         first | exact hf | ((repeat apply Exists.intro); exact ⟨hf,rfl⟩)
        case measure=>rw [hrg3.left_eq,hrg.left_eq]; omega
       ·
        have hn0:(c != 0) = true:=by simp [hc0]
        have hn1:(c == 0) = false:=by simp [hc0]
        have hcol2:=HST.out.1 ⟨ka,kb,c⟩ rfl rfl hc0
        clear hc0
        have hgA4:=World.grownBy_alloc w2 (Obj.cells #[Value.int IntKind.i64 ka,Value.int IntKind.i64 kb,Value.int IntKind.i64 c] 64) none
        have hrg4:=hrg2.kept hgA4 (by simp) (by simp)
        have hrow4:=hrow2.alloc (Obj.cells #[Value.int IntKind.i64 ka,Value.int IntKind.i64 kb,Value.int IntKind.i64 c] 64)
        have hbel4:=bel_alloc hbel2 (Obj.cells #[Value.int IntKind.i64 ka,Value.int IntKind.i64 kb,Value.int IntKind.i64 c] 64)
        have hne:some w.heap.size ≠ u7.ownBlock:=fun e=>by have:=(hrow4.block_lt e.symm).1; omega
        have hne2:some wq.heap.size ≠ u7.ownBlock:=fun e=>by have:=(hrow4.block_lt e.symm).1; omega
        have hr4:=fun g hg=>(hrow4.block_lt (g:=g) hg).1
        have hs4:wq.heap.size+1≤(w2.alloc (Obj.cells #[Value.int IntKind.i64 ka,Value.int IntKind.i64 kb,Value.int IntKind.i64 c] 64)).heap.size:=by simp; omega
        go_wp2_with (first | (go_at_call 42; refine (total_any _ _).mono ?_; rintro e w' ⟨rfl,rfl⟩) | (at_builtin; (refine wpList_append_one _ _ 27 ⟨ka,kb,c⟩ _ 24 _ infoB Tryz.underlying27 hrow4 encB_len (by omega) rfl (encB_one _) (by omega) (by omega) hs4 (by rfl) (by rfl) (by rfl) (by rfl) (by simp) (by rfl) ?_); intro v2 w6 hown7 hg7))
        go_roundw
        case rel =>
         have hf:∃ left cnt ys,w6.ranges Tryz.prog 64 (plainElem (H:=Unit) Tryz.prog 3) w.heap.size wq.heap.size xs.length D left cnt∧Own encB 3 64 w6 (wq.heap.size+1) v2 ys∧ColG RB litB goodB maxN (RB.has xs) (RB.tot xs) left ys∧ys.length+cnt≤xs.length∧Below wq.heap.size wq w6:=⟨_,_,_,hrg4.kept hg7 hne hne2,hown7,hcol2,by simp; omega,bel_only hbel4 hg7 (fun g hg=>by have:=hr4 g hg; omega)⟩
         first | exact hf | ((repeat apply Exists.intro); exact ⟨hf,rfl⟩)
        case measure=>rw [(hrg4.kept hg7 hne hne2).left_eq,hrg.left_eq]; omega
      ·
       have ha':maxN c = false:=by simpa using ha
       have HP:Hid (mErrB xs = 4):=by
        have h4:overB (RB.sums xs) = true:=(Rec.any_iff RB_law maxN (Rec.sums_sorted RB_law xs)).2 ⟨_,by rw [Rec.sums_has RB_law]; exact hKs,by rw [Rec.sums_tot RB_law,HT.out]; exact ha'⟩
        rw [Hid,HM.out,h4]; rfl
       clear ha
       go_wp2_with (go_at_call 42; refine (total_any _ _).mono ?_; rintro e w' ⟨rfl,rfl⟩)
       go_ret2
       exact BPost.fail (mRB_no HP.out (by omega)) HP.out (bel_adv hbel hbel3)
end Go.Proofs.YtjncpgbhokjbfaaGreat
namespace Go.Proofs.YtjncpgbhokjbfaaGreat
open Go.RowKit
set_option maxRecDepth 100000 in
set_option maxHeartbeats 1000000 in
theorem entryC_any (a n r : Int) (g:Nat) (w:World) (hc:w.cell? ⟨g,0,none⟩ = some (.int .i64 r)) (hg:g < w.heap.size) :
  Calls Tryz.prog 39 #[.int .i64 a,.int .i64 n,.pointer (some ⟨g,0,none⟩)] w fun e w'=>e = .returned (.agg #[.int .i64 r,.int .i64 a,.int .i64 n])∧Below w.heap.size w w':=by
 go_enter Tryz.func39,Tryz.ntmps39
 go_wp2
 exact bodyPost_ret (v:=.agg #[.int .i64 r,.int .i64 a,.int .i64 n]) (by simp [results,Tryz.results39,go_sem]) rfl ⟨rfl,bel_alloc (Below.refl _ _) _⟩
theorem ent_kind {ws:List WageT} {p:PostT} (h:p.line.kind ≠ 1) : entMiss ws p = false∧entOf ws p = entsK p.line.kind p.run p.line.amount:=by
 simp [entMiss,entOf,h]
set_option maxRecDepth 100000 in
set_option maxHeartbeats 4000000 in
theorem entries_any (A:Option Addr) (cap:Nat) (ws:List WageT) (p:PostT) (w:World) (h:SliceOf encW 6 w w.heap.size A ws) (hl:ws.length≤9223372036854775806) (ha1 : -1000000000000≤p.line.amount) (ha2:p.line.amount≤1000000000000) :
  Calls Tryz.prog 23 #[.slice A ws.length cap,.agg #[.int .i64 p.run,.int .i64 p.employee,.int .i64 p.period,.int .i64 p.line.kind,.string p.line.code,.int .i64 p.line.amount]] w (EntPost ws p w):=by
 obtain ⟨run,emp,per,kind,code,amount⟩:=p
 simp only at ha1 ha2 ⊢
 have hS:=h.advA (.cells #[.int .i64 run,.int .i64 emp,.int .i64 per,.int .i64 kind,.string code,.int .i64 amount] 55)
 have hB:=Blk.new w 55 #[.int .i64 run,.int .i64 emp,.int .i64 per,.int .i64 kind,.string code,.int .i64 amount]
 have hbel:Below w.heap.size w (w.alloc (.cells #[.int .i64 run,.int .i64 emp,.int .i64 per,.int .i64 kind,.string code,.int .i64 amount] 55)):=below_new _ _
 by_cases hk1:kind = 1
 ·
  subst hk1
  have HMD:Hid (entMiss ws ⟨run,emp,per,1,code,amount⟩ = (findW ws code).isNone):=by rw [Hid,entMiss]; simp
  have HOD:Hid (entOf ws ⟨run,emp,per,1,code,amount⟩ = (match findW ws code with | some t=>[⟨run,t.account,amount⟩] | none=>[])):=by rw [Hid,entOf,if_pos rfl]; rfl
  go_enter Tryz.func23,Tryz.ntmps23
  go_wp2_with fail
  refine (find_any A cap ws code _ hS hl).mono ?_
  rintro e w1 ⟨rfl,hb1⟩
  have hB1:=hB.adv hb1
  have hbel1:=bel_adv hbel hb1
  rcases hf:findW ws code with _ | t
  ·
   rw [hf] at HMD
   have HMi:Hid (entMiss ws ⟨run,emp,per,1,code,amount⟩ = true):=HMD.out
   rw [show foundV none = .tuple #[.agg #[.string ⟨#[]⟩,.int .i64 0,.bool false,.bool false,.bool false,.int .i64 0],.bool false] from rfl]
   clear hf HMD HOD
   go_wp2
   go_ret2
   exact ⟨_,by rw [HMi.out]; rfl,(fun h=>by rw [HMi.out] at h; cases h),bel_alloc hbel1 _⟩
  ·
   rw [hf] at HMD HOD
   have HMi:Hid (entMiss ws ⟨run,emp,per,1,code,amount⟩ = false):=HMD.out
   rw [show foundV (some t) = .tuple #[.agg #[.string t.code,.int .i64 t.kind,.bool t.taxable,.bool t.insured,.bool t.attachable,.int .i64 t.account],.bool true] from rfl]
   clear hf HMD
   have hB2:=hB1.alloc (.cells #[.string t.code,.int .i64 t.kind,.bool t.taxable,.bool t.insured,.bool t.attachable,.int .i64 t.account] 61)
   have hbel2:=bel_alloc hbel1 (.cells #[.string t.code,.int .i64 t.kind,.bool t.taxable,.bool t.insured,.bool t.attachable,.int .i64 t.account] 61)
   go_wp2_with fail
   refine (entryC_any t.account amount run _ _ ((hB2.cell 0).trans rfl) hB2.lt).mono ?_
   rintro e w3 ⟨rfl,hb3⟩
   have hbel3:=bel_adv hbel2 hb3
   go_wp2
   have hN:=SliceOf.new encB_len w3 [(⟨run,t.account,amount⟩ : BookT)] #[.int .i64 run,.int .i64 t.account,.int .i64 amount] 64 rfl
   go_ret2
   refine ⟨_,by rw [HMi.out]; rfl,fun _=>⟨some ⟨w3.heap.size,0,none⟩,1,by rw [HOD.out]; rfl,by rw [HOD.out]; exact hN.more (by simp)⟩,bel_alloc hbel3 _⟩
 obtain ⟨hM,hO⟩:=ent_kind (ws:=ws) (p:=⟨run,emp,per,kind,code,amount⟩) hk1
 simp only at hO
 have HM:=Lib.hid hM
 have HO:=Lib.hid hO
 clear hM hO
 by_cases hk3:kind = 3
 ·
  subst hk3
  have HE:Hid (entsK 3 run amount = [(⟨run,106,-amount⟩ : BookT)]):=rfl
  have z0:=hB.cell 0
  simp only [List.getElem?_toArray,List.getElem?_cons_zero] at z0
  go_enter Tryz.func23,Tryz.ntmps23
  go_wp2_with fail
  refine (entryC_any 106 (-amount) run _ _ ((hB.cell 0).trans rfl) hB.lt).mono ?_
  rintro e w1 ⟨rfl,hb1⟩
  have hB1:=hB.adv hb1
  have hbel1:=bel_adv hbel hb1
  go_wp2
  have hN:=SliceOf.new encB_len w1 [(⟨run,106,-amount⟩ : BookT)] #[.int .i64 run,.int .i64 106,.int .i64 (-amount)] 64 rfl
  go_ret2
  refine ⟨_,by rw [HM.out]; rfl,fun _=>⟨some ⟨w1.heap.size,0,none⟩,1,by rw [HO.out,HE.out]; rfl,by rw [HO.out,HE.out]; exact hN.more (by simp)⟩,bel_alloc hbel1 _⟩
 by_cases hk4:kind = 4
 ·
  subst hk4
  have HE:Hid (entsK 4 run amount = [(⟨run,103,-amount⟩ : BookT)]):=rfl
  have z0:=hB.cell 0
  simp only [List.getElem?_toArray,List.getElem?_cons_zero] at z0
  go_enter Tryz.func23,Tryz.ntmps23
  go_wp2_with fail
  refine (entryC_any 103 (-amount) run _ _ ((hB.cell 0).trans rfl) hB.lt).mono ?_
  rintro e w1 ⟨rfl,hb1⟩
  have hB1:=hB.adv hb1
  have hbel1:=bel_adv hbel hb1
  go_wp2
  have hN:=SliceOf.new encB_len w1 [(⟨run,103,-amount⟩ : BookT)] #[.int .i64 run,.int .i64 103,.int .i64 (-amount)] 64 rfl
  go_ret2
  refine ⟨_,by rw [HM.out]; rfl,fun _=>⟨some ⟨w1.heap.size,0,none⟩,1,by rw [HO.out,HE.out]; rfl,by rw [HO.out,HE.out]; exact hN.more (by simp)⟩,bel_alloc hbel1 _⟩
 by_cases hk5:kind = 5
 ·
  subst hk5
  have HE:Hid (entsK 5 run amount = [(⟨run,104,amount⟩ : BookT),(⟨run,103,-amount⟩ : BookT)]):=rfl
  have z0:=hB.cell 0
  simp only [List.getElem?_toArray,List.getElem?_cons_zero] at z0
  go_enter Tryz.func23,Tryz.ntmps23
  go_wp2_with fail
  refine (entryC_any 104 (amount) run _ _ ((hB.cell 0).trans rfl) hB.lt).mono ?_
  rintro e w1 ⟨rfl,hb1⟩
  have hB1:=hB.adv hb1
  have hbel1:=bel_adv hbel hb1
  go_wp2_with fail
  refine (entryC_any 103 (-amount) run _ _ ((hB1.cell 0).trans rfl) hB1.lt).mono ?_
  rintro e w2 ⟨rfl,hb2⟩
  have hB2:=hB1.adv hb2
  have hbel2:=bel_adv hbel1 hb2
  go_wp2
  have hN:=SliceOf.new encB_len w2 [(⟨run,104,amount⟩ : BookT),(⟨run,103,-amount⟩ : BookT)] #[.int .i64 run,.int .i64 104,.int .i64 (amount),.int .i64 run,.int .i64 103,.int .i64 (-amount)] 64 rfl
  go_ret2
  refine ⟨_,by rw [HM.out]; rfl,fun _=>⟨some ⟨w2.heap.size,0,none⟩,2,by rw [HO.out,HE.out]; rfl,by rw [HO.out,HE.out]; exact hN.more (by simp)⟩,bel_alloc hbel2 _⟩
 by_cases hk6:kind = 6
 ·
  subst hk6
  have HE:Hid (entsK 6 run amount = [(⟨run,102,-amount⟩ : BookT)]):=rfl
  have z0:=hB.cell 0
  simp only [List.getElem?_toArray,List.getElem?_cons_zero] at z0
  go_enter Tryz.func23,Tryz.ntmps23
  go_wp2_with fail
  refine (entryC_any 102 (-amount) run _ _ ((hB.cell 0).trans rfl) hB.lt).mono ?_
  rintro e w1 ⟨rfl,hb1⟩
  have hB1:=hB.adv hb1
  have hbel1:=bel_adv hbel hb1
  go_wp2
  have hN:=SliceOf.new encB_len w1 [(⟨run,102,-amount⟩ : BookT)] #[.int .i64 run,.int .i64 102,.int .i64 (-amount)] 64 rfl
  go_ret2
  refine ⟨_,by rw [HM.out]; rfl,fun _=>⟨some ⟨w1.heap.size,0,none⟩,1,by rw [HO.out,HE.out]; rfl,by rw [HO.out,HE.out]; exact hN.more (by simp)⟩,bel_alloc hbel1 _⟩
 by_cases hk7:kind = 7
 ·
  subst hk7
  have HE:Hid (entsK 7 run amount = [(⟨run,105,-amount⟩ : BookT)]):=rfl
  have z0:=hB.cell 0
  simp only [List.getElem?_toArray,List.getElem?_cons_zero] at z0
  go_enter Tryz.func23,Tryz.ntmps23
  go_wp2_with fail
  refine (entryC_any 105 (-amount) run _ _ ((hB.cell 0).trans rfl) hB.lt).mono ?_
  rintro e w1 ⟨rfl,hb1⟩
  have hB1:=hB.adv hb1
  have hbel1:=bel_adv hbel hb1
  go_wp2
  have hN:=SliceOf.new encB_len w1 [(⟨run,105,-amount⟩ : BookT)] #[.int .i64 run,.int .i64 105,.int .i64 (-amount)] 64 rfl
  go_ret2
  refine ⟨_,by rw [HM.out]; rfl,fun _=>⟨some ⟨w1.heap.size,0,none⟩,1,by rw [HO.out,HE.out]; rfl,by rw [HO.out,HE.out]; exact hN.more (by simp)⟩,bel_alloc hbel1 _⟩
 by_cases hk8:kind = 8
 ·
  subst hk8
  have HE:Hid (entsK 8 run amount = [(⟨run,107,-amount⟩ : BookT)]):=rfl
  have z0:=hB.cell 0
  simp only [List.getElem?_toArray,List.getElem?_cons_zero] at z0
  go_enter Tryz.func23,Tryz.ntmps23
  go_wp2_with fail
  refine (entryC_any 107 (-amount) run _ _ ((hB.cell 0).trans rfl) hB.lt).mono ?_
  rintro e w1 ⟨rfl,hb1⟩
  have hB1:=hB.adv hb1
  have hbel1:=bel_adv hbel hb1
  go_wp2
  have hN:=SliceOf.new encB_len w1 [(⟨run,107,-amount⟩ : BookT)] #[.int .i64 run,.int .i64 107,.int .i64 (-amount)] 64 rfl
  go_ret2
  refine ⟨_,by rw [HM.out]; rfl,fun _=>⟨some ⟨w1.heap.size,0,none⟩,1,by rw [HO.out,HE.out]; rfl,by rw [HO.out,HE.out]; exact hN.more (by simp)⟩,bel_alloc hbel1 _⟩
 by_cases hk9:kind = 9
 ·
  subst hk9
  have HE:Hid (entsK 9 run amount = [(⟨run,100,-amount⟩ : BookT)]):=rfl
  have z0:=hB.cell 0
  simp only [List.getElem?_toArray,List.getElem?_cons_zero] at z0
  go_enter Tryz.func23,Tryz.ntmps23
  go_wp2_with fail
  refine (entryC_any 100 (-amount) run _ _ ((hB.cell 0).trans rfl) hB.lt).mono ?_
  rintro e w1 ⟨rfl,hb1⟩
  have hB1:=hB.adv hb1
  have hbel1:=bel_adv hbel hb1
  go_wp2
  have hN:=SliceOf.new encB_len w1 [(⟨run,100,-amount⟩ : BookT)] #[.int .i64 run,.int .i64 100,.int .i64 (-amount)] 64 rfl
  go_ret2
  refine ⟨_,by rw [HM.out]; rfl,fun _=>⟨some ⟨w1.heap.size,0,none⟩,1,by rw [HO.out,HE.out]; rfl,by rw [HO.out,HE.out]; exact hN.more (by simp)⟩,bel_alloc hbel1 _⟩
 by_cases hk10:kind = 10
 ·
  subst hk10
  have HE:Hid (entsK 10 run amount = [(⟨run,101,amount⟩ : BookT)]):=rfl
  have z0:=hB.cell 0
  simp only [List.getElem?_toArray,List.getElem?_cons_zero] at z0
  go_enter Tryz.func23,Tryz.ntmps23
  go_wp2_with fail
  refine (entryC_any 101 (amount) run _ _ ((hB.cell 0).trans rfl) hB.lt).mono ?_
  rintro e w1 ⟨rfl,hb1⟩
  have hB1:=hB.adv hb1
  have hbel1:=bel_adv hbel hb1
  go_wp2
  have hN:=SliceOf.new encB_len w1 [(⟨run,101,amount⟩ : BookT)] #[.int .i64 run,.int .i64 101,.int .i64 (amount)] 64 rfl
  go_ret2
  refine ⟨_,by rw [HM.out]; rfl,fun _=>⟨some ⟨w1.heap.size,0,none⟩,1,by rw [HO.out,HE.out]; rfl,by rw [HO.out,HE.out]; exact hN.more (by simp)⟩,bel_alloc hbel1 _⟩
 have HE:Hid (entsK kind run amount = []):=by rw [Hid,entsK]; simp [*]
 have q1:(kind == 1) = false:=by simpa using hk1
 have q3:(kind == 3) = false:=by simpa using hk3
 have q4:(kind == 4) = false:=by simpa using hk4
 have q5:(kind == 5) = false:=by simpa using hk5
 have q6:(kind == 6) = false:=by simpa using hk6
 have q7:(kind == 7) = false:=by simpa using hk7
 have q8:(kind == 8) = false:=by simpa using hk8
 have q9:(kind == 9) = false:=by simpa using hk9
 have q10:(kind == 10) = false:=by simpa using hk10
 clear hk1 hk3 hk4 hk5 hk6 hk7 hk8 hk9 hk10
 go_enter Tryz.func23,Tryz.ntmps23
 go_wp2
 go_ret2
 exact ⟨_,by rw [HM.out]; rfl,fun _=>⟨none,0,by rw [HO.out,HE.out]; rfl,by rw [HO.out,HE.out]; exact SliceOf.nil_⟩,hbel⟩
set_option maxRecDepth 100000 in
set_option maxHeartbeats 4000000 in
theorem Entries_any (A B : Option Addr) (cap bcap : Nat) (ws:List WageT) (l:List PostT) (w:World) (h:SliceOf encW 6 w w.heap.size A ws) (hz : ∀ x ∈ ws,x.code.size≤maxLen) (hl:ws.length≤9223372036854775806)
  (hy:SliceOf encP 6 w w.heap.size B l) (hyz:∀ x ∈ l,x.line.code.size≤maxLen) (hyl:l.length≤9223372036854775806) :
  Calls Tryz.prog 7 #[.slice A ws.length cap,.slice B l.length bcap] w (BPost (eRes ws l) (eErr ws l) w):=by
 have HZ:=Lib.hid hz; clear hz
 have HYZ:=Lib.hid hyz; clear hyz
 have fail_:∀ (n:Int) (W:World),n ≠ 0→eErr ws l = n→Below w.heap.size w W→BPost (eRes ws l) (eErr ws l) w (Ending.returned (.tuple #[.slice none 0 0,.int .i64 n])) W :=
  fun n W hn he hb=>BPost.fail (eRes_no he hn) he hb
 have FAIL:=Lib.hid fail_
 clear fail_
 go_enter Tryz.func7,Tryz.ntmps7
 go_wp2_with fail
 refine (valid_any A cap ws _ h HZ.out (by omega)).mono ?_
 rintro e w1 ⟨rfl,hb1⟩
 by_cases hv:validB ws = true
 rotate_left
 ·
  have hv':validB ws = false:=by simpa using hv
  clear hv
  go_wp2
  go_ret2
  exact FAIL.out 1 _ (by omega) (eErr_1 (.inl hv')) hb1
 go_wp2_with fail
 refine (book_any B bcap l _ (hy.adv hb1) hyl HYZ.out).mono ?_
 rintro e w2 ⟨rfl,hb2⟩
 have hbel2:=bel_adv hb1 hb2
 by_cases hb:bookB l = true
 rotate_left
 ·
  have hb':bookB l = false:=by simpa using hb
  clear hb
  go_wp2
  go_ret2
  exact FAIL.out 1 _ (by omega) (eErr_1 (.inr hb')) hbel2
 have hll:l.length≤65536:=((bookB_iff l).1 hb).1
 have HVP:=Lib.hid ((bookB_iff l).1 hb).2.2
 have HMI:=Lib.hid (eErr_16 (l:=l) hv hb)
 have HOK:=Lib.hid (eErr_m (l:=l) hv hb)
 go_wp2_with fail
 clear hv hb hyl
 go_loopw [6,21] (fun v i wr=>∃ k:Nat,k≤l.length∧i = .int .i64 k∧Hid (∀ j,(hj:j < l.length)→j < k→entMiss ws l[j] = false)∧Own encB 3 64 wr w2.heap.size v (entAll ws (l.take k))∧Below w2.heap.size w2 wr) (fun _ i _=>l.length - (intOf i).toNat)
 case atStart=>exact ⟨0,by omega,rfl,fun j _ hj=>absurd hj (by omega),Own.nil_ _ _,Below.refl _ _⟩
 case round =>
  obtain ⟨k,hk,rfl,hall,hown,hbel⟩:=hrel
  have hbs:=hbel.size
  have hal:(entAll ws (l.take k)).length≤131072:=Nat.le_trans (entAll_len _ _) (by simp; omega)
  by_cases hlt:k < l.length
  ·
   obtain ⟨b,off,rfl,hbb,hc⟩:=((hy.adv hbel2).adv hbel).at_ hlt
   have c0:=hc 0 _ rfl
   have c1:=hc 1 _ rfl
   have c2:=hc 2 _ rfl
   have c3:=hc 3 _ rfl
   have c4:=hc 4 _ rfl
   have c5:=hc 5 _ rfl
   simp only [Nat.add_zero] at c0
   clear hc
   obtain ⟨a1,a2⟩:=validP_amt (HVP.out _ (List.getElem_mem hlt))
   have hownA:=hown.alloc (.cells #[.int .i64 l[k].run,.int .i64 l[k].employee,.int .i64 l[k].period,.int .i64 l[k].line.kind,.string l[k].line.code,.int .i64 l[k].line.amount] 55)
   have hbelA:=bel_alloc hbel (.cells #[.int .i64 l[k].run,.int .i64 l[k].employee,.int .i64 l[k].period,.int .i64 l[k].line.kind,.string l[k].line.code,.int .i64 l[k].line.amount] 55)
   go_wp2_with fail
   generalize wr.alloc (Obj.cells _ _) = W at hownA hbelA ⊢
   refine (entries_any A cap ws l[k] _ ((h.adv hbel2).adv hbelA) hl a1 a2).mono ?_
   rintro e w4 ⟨v4,rfl,hent,hb4⟩
   have hown4:=hownA.adv hb4
   have hbel4:=bel_adv hbelA hb4
   have hbs4:=hbel4.size
   have HT:=Lib.hid (entAll_take ws l k hlt)
   have hel:=entOf_len ws l[k]
   clear c0 c1 c2 c3 c4 c5 hownA hbelA hb4 hown hbel
   rcases hm:entMiss ws l[k] with _ | _
   ·
    obtain ⟨A4,c4',rfl,hS4⟩:=hent hm
    have HN:Hid (∀ j,(hj:j < l.length)→j < k+1→entMiss ws l[j] = false):=by
     intro j hj hjk
     rcases Nat.lt_or_ge j k with h3 | h3
     ·
      exact hall.out j hj h3
     ·
      obtain rfl:j = k:=by omega
      exact hm
    clear hent hm
    have hr7:=fun g hg=>(hown4.block_lt (g:=g) hg).1
    go_wp2_with (at_builtin; (refine wpList_append_list (ys:=entOf ws l[k]) _ _ 27 _ 24 _ infoB Tryz.underlying27 hown4 hS4 encB_len (by omega) rfl encB_one (by omega) (by omega) hbs4 (by rfl) (by rfl) (by rfl) (by rfl) (by rfl) ?_); intro v6 w6 hown6 hg6)
    go_roundw
    case rel=>exact ⟨k+1,by omega,by go_num,HN,by rw [HT.out]; exact hown6,bel_only hbel4 hg6 hr7⟩
    case measure=>simp [intOf]; omega
   ·
    have HM2:=Lib.hid (HMI.out (List.any_eq_true.2 ⟨l[k],List.getElem_mem _,hm⟩))
    clear hent hm
    go_wp2
    go_ret2
    exact FAIL.out 16 _ (by omega) HM2.out (bel_adv hbel2 hbel4)
  ·
   rw [List.take_of_length_le (by omega)] at hown hal
   have HM2:Hid (eErr ws l = mErrB (entAll ws l)):=HOK.out (by
    rw [List.any_eq_false]
    intro x hx
    obtain ⟨j,hj,rfl⟩:=List.mem_iff_getElem.1 hx
    simp [hall.out j hj (by omega)])
   have HR2:=Lib.hid (eRes_m HM2.out)
   generalize entAll ws l = es at hown hal HM2 HR2
   obtain ⟨A5,c5',rfl,hS5,hB5,hlc5,hcm5⟩:=hown.form2 encB_len
   go_wp2_with fail
   refine (mergeB_any A5 c5' es _ hS5 (by omega)).mono ?_
   rintro e w7 ⟨A7,c7,rfl,hS7,hlc7,hcm7,hb7⟩
   go_wp2
   go_ret2
   rw [HM2.out,HR2.out]
   exact ⟨A7,c7,rfl,hS7,hlc7,hcm7,bel_adv hbel2 (bel_adv hbel hb7)⟩
end Go.Proofs.YtjncpgbhokjbfaaGreat
