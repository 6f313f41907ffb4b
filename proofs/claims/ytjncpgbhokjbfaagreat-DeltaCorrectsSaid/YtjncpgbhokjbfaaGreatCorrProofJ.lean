/- Joined texts: Awake37 Book Book2 Book3 Corr CorrProof. Conditions: as stated. -/
import Derived.Deep.QuietTactic
import Derived.BigQuiet
import Derived.OwnWalk
import Derived.Test.YtjncpgbhokjbfaaGreatRows
import Derived.Test.YtjncpgbhokjbfaaGreatJ06
import Derived.Test.YtjncpgbhokjbfaaGreatJ49
import Derived.Test.YtjncpgbhokjbfaaGreatJ50
namespace Go.Proofs.YtjncpgbhokjbfaaGreat
open Go.RowKit
def awL : List LineT:=[⟨9,⟨#[]⟩,5⟩]
theorem aw1 : recV 700 1000 800 500000 = .tuple #[.int .i64 800,.int .i64 (-100),.int .i64 0]:=by
 have h1:recOk 700 1000 800 500000 = true:=by decide +kernel
 have h2:recPay 700 1000 800 500000 = 800:=by decide +kernel
 rw [recV,h1,if_pos rfl,h2]; rfl
theorem aw2 : pErr 1 1 0 [] awL = 0:=by decide +kernel
theorem aw3 : pR 1 1 0 [] awL = [⟨1,1,0,⟨9,⟨#[]⟩,5⟩⟩]:=by decide +kernel
set_option maxRecDepth 100000 in
set_option maxHeartbeats 2000000 in
theorem awake_any (w:World) : Calls Tryz.prog 17 #[] w fun e w'=>e = .returned (.bool true)∧Below w.heap.size w w':=by
 go_enter Tryz.func17,Tryz.ntmps17
 go_wp2_with fail
 refine (recover_any _ _ _ _ _).mono ?_
 rintro e w1 ⟨rfl,q1,rfl⟩
 rw [aw1]
 go_wp2_with fail
 have hL:=(SliceOf.new encL_len (w.drewN q1) awL _ 53 rfl).more (B':=((w.drewN q1).alloc (.cells (awL.flatMap encL).toArray 53)).heap.size) (by simp)
 have hz:∀ x ∈ awL,x.code.size≤maxLen:=by decide
 have hcon:=postings_any 1 1 0 none _ 0 1 [] awL ((w.drewN q1).alloc (.cells (awL.flatMap encL).toArray 53)) SliceOf.nil_ (by simp) (by simp) hL hz (by simp [awL])
 have HC:=Lib.hid hcon
 clear hcon hL hz
 rw [show (awL.flatMap encL).toArray = #[.int .i64 9,.string ⟨#[]⟩,.int .i64 5] from rfl] at HC
 refine Calls.mono HC.out ?_
 rintro e w2 ⟨v2,rfl,hown2,hb2⟩
 rw [aw2]
 rw [aw3] at hown2
 obtain ⟨A2,c2,rfl,hS2,hB2,hlc2,hcm2⟩:=hown2.form2 encP_len
 obtain ⟨b,off,rfl,hb,hc⟩:=hS2 (by simp)
 have d5:=hc 0 _ rfl 5 _ rfl
 simp only [Nat.zero_mul,Nat.add_zero] at d5
 have hbel2:Below w.heap.size w w2:=bel_adv (bel_alloc (below_drewN (Below.refl _ _) q1) _) hb2
 clear hown2 hS2 hB2 hc hb2 HC
 go_wp2
 go_ret
 exact ⟨rfl,hbel2⟩
end Go.Proofs.YtjncpgbhokjbfaaGreat
namespace Go.Proofs.YtjncpgbhokjbfaaGreat
open Go.RowKit
structure PostOk (p:PostT) : Prop where
 r1:1≤p.run
 r2:p.run≤256
 e1:1≤p.employee
 e2:p.employee≤2147483647
 p1:0≤p.period
 p2:p.period≤84005
 form:formZ p.line = true
 code:p.line.code.size≤maxLen
set_option maxHeartbeats 1000000 in
theorem bvalid_yes (p:PostT) (w:World) (h:PostOk p) :
  Calls Tryz.prog 64 #[aggP p] w fun e w'=>e = .returned (.bool true)∧Below w.heap.size w w':=by
 obtain ⟨r1,r2,e1,e2,p1,p2,hf,hc⟩:=h
 have HF:=Lib.hid hf
 clear hf
 unfold aggP
 go_enter Tryz.func64,Tryz.ntmps64
 go_wp2_with fail
 refine (formp_any p.line _ hc).mono ?_
 rintro e w1 ⟨rfl,hb1⟩
 rw [HF.out]
 go_wp2
 go_ret
 exact ⟨rfl,bel_adv (below_new w _) hb1⟩
set_option maxHeartbeats 1000000 in
theorem ascending_yes (A:Option Addr) (c:Nat) (xs:List PostT) (w:World) (h:SliceOf encP 6 w w.heap.size A xs) (hl:xs.length≤9223372036854775806)
  (ha:∀ i,(hi:i+1 < xs.length)→xs[i].run≤xs[i+1].run) :
  Calls Tryz.prog 33 #[.slice A xs.length c] w fun e w'=>e = .returned (.bool true)∧∃ q,w' = w.drewN q:=by
 have HA:=Lib.hid ha
 clear ha
 go_enter Tryz.func33,Tryz.ntmps33
 go_wp2
 go_loopw [3] (fun i wr=>∃ k q:Nat,i = .int .i64 ((k:Int)+1)∧k≤xs.length∧Hid (wr = w.drewN q)) (fun i _=>xs.length+1 - (intOf i).toNat)
 case atStart=>exact ⟨0,0,rfl,by omega,rfl⟩
 case round =>
  obtain ⟨k,q,rfl,hkl,hw⟩:=hrel
  have hx':SliceOf encP 6 wr w.heap.size A xs:=by rw [hw.out]; exact h
  by_cases hlt:k+1 < xs.length
  ·
   obtain ⟨b1,off1,rfl,hb1,hc1⟩:=hx'.at_ hlt
   obtain ⟨b2,off2,hA2,hb2,hc2⟩:=hx'.at_ (show k < xs.length by omega)
   injection hA2 with hA2
   injection hA2 with hA3 hA4
   subst hA3 hA4
   have c0:=hc1 0 _ rfl
   have d0:=hc2 0 _ rfl
   simp only [Nat.add_zero] at c0 d0
   clear hc1 hc2
   have hle:=HA.out k hlt
   have hn:decide (xs[k+1].run < xs[k].run) = false:=by simp; omega
   have hi1:(k:Int)+1 < (xs.length:Int):=by omega
   have hi2:(k:Int) < (xs.length:Int):=by omega
   go_wp2
   go_quiet (fail)
   go_wp2
   go_roundw
   case rel =>
    refine ⟨k+1,q+nq,by go_num,by omega,?_⟩
    show wr.drewN nq = w.drewN (q+nq)
    rw [hw.out,World.drewN_drewN]
   case measure=>simp [intOf]; omega
  ·
   go_wp2
   go_ret
   exact ⟨rfl,q,hw.out⟩
set_option maxHeartbeats 1000000 in
theorem bvalids_yes (A:Option Addr) (c:Nat) (xs:List PostT) (w:World) (h:SliceOf encP 6 w w.heap.size A xs) (hl:xs.length≤9223372036854775806)
  (ha:∀ x ∈ xs,PostOk x) :
  Calls Tryz.prog 32 #[.slice A xs.length c] w fun e w'=>e = .returned (.bool true)∧Below w.heap.size w w':=by
 have HA:=Lib.hid ha
 clear ha
 go_enter Tryz.func32,Tryz.ntmps32
 go_wp2
 go_loopw [7] (fun i wr=>∃ k:Nat,i = .int .i64 k∧k≤xs.length∧Below w.heap.size w wr) (fun i _=>xs.length - (intOf i).toNat)
 case atStart=>exact ⟨0,rfl,by omega,Below.refl _ _⟩
 case round =>
  obtain ⟨k,rfl,hkl,hbel⟩:=hrel
  by_cases hlt:k < xs.length
  ·
   obtain ⟨b,off,rfl,hb,hc⟩:=(h.below hbel).at_ hlt
   have c0:=hc 0 _ rfl
   have c1:=hc 1 _ rfl
   have c2:=hc 2 _ rfl
   have c3:=hc 3 _ rfl
   have c4:=hc 4 _ rfl
   have c5:=hc 5 _ rfl
   simp only [Nat.add_zero] at c0
   clear hc
   have hok:=HA.out _ (List.getElem_mem hlt)
   go_wp2_with fail
   refine (bvalid_yes xs[k] _ hok).mono ?_
   rintro e w1 ⟨rfl,hb1⟩
   go_wp2
   go_roundw
   case rel=>exact ⟨k+1,by go_num,by omega,bel_adv (bel_alloc hbel _) hb1⟩
   case measure=>simp [intOf]; omega
  ·
   go_wp2
   go_ret
   exact ⟨rfl,hbel⟩
set_option maxHeartbeats 1000000 in
theorem book_yes (A:Option Addr) (c:Nat) (xs:List PostT) (w:World) (h:SliceOf encP 6 w w.heap.size A xs) (hl:xs.length≤65536)
  (ha:∀ i,(hi:i+1 < xs.length)→xs[i].run≤xs[i+1].run) (hv:∀ x ∈ xs,PostOk x) :
  Calls Tryz.prog 22 #[.slice A xs.length c] w fun e w'=>e = .returned (.bool true)∧Below w.heap.size w w':=by
 have HA:=Lib.hid ha
 have HV:=Lib.hid hv
 clear ha hv
 go_enter Tryz.func22,Tryz.ntmps22
 go_wp2_with fail
 refine (ascending_yes A c xs _ h (by omega) HA.out).mono ?_
 rintro e w1 ⟨rfl,q1,rfl⟩
 go_wp2_with fail
 refine (bvalids_yes A c xs _ (h.advD q1) (by omega) HV.out).mono ?_
 rintro e w2 ⟨rfl,hb2⟩
 go_wp2
 go_ret
 exact ⟨rfl,bel_adv (below_drewN (Below.refl _ _) q1) hb2⟩
end Go.Proofs.YtjncpgbhokjbfaaGreat
namespace Go.Proofs.YtjncpgbhokjbfaaGreat
open Go.RowKit
def Asc (xs:List PostT) : Prop:=∀ i,(hi:i+1 < xs.length)→xs[i].run≤xs[i+1].run
set_option maxRecDepth 100000 in
set_option maxHeartbeats 1000000 in
theorem add_yes (A B : Option Addr) (c d : Nat) (xs ys : List PostT) (w:World) (h:SliceOf encP 6 w w.heap.size A xs) (hy:SliceOf encP 6 w w.heap.size B ys) (hl:xs.length+ys.length≤65536)
  (ha:Asc xs) (hav:Asc (xs++ys)) (hv:∀ x ∈ xs,PostOk x) (hvy:∀ x ∈ ys,PostOk x) :
  Calls Tryz.prog 15 #[.slice A xs.length c,.slice B ys.length d] w fun e w'=>∃ v,e = .returned (.tuple #[v,.int .i64 0])∧Own encP 6 55 w' w.heap.size v (xs++ys)∧Below w.heap.size w w':=by
 have HA:=Lib.hid ha
 have HAV:=Lib.hid hav
 have HV:=Lib.hid hv
 have HVY:=Lib.hid hvy
 clear ha hav hv hvy
 go_enter Tryz.func15,Tryz.ntmps15
 go_wp2_with fail
 refine (book_yes A c xs _ h (by omega) HA.out HV.out).mono ?_
 rintro e w1 ⟨rfl,hb1⟩
 go_wp2_with fail
 refine (bvalids_yes B d ys _ (hy.adv hb1) (by omega) HVY.out).mono ?_
 rintro e w2 ⟨rfl,hb2⟩
 have hbel2:Below w.heap.size w w2:=bel_adv hb1 hb2
 have hx2:=h.adv hbel2
 have hy2:=hy.adv hbel2
 have hs2:=hbel2.size
 clear h hy hb1 hb2
 obtain ⟨i,hi,hz,hsz,hib⟩:=info_parts infoP
 have hib2:i.bytes * (xs.length+ys.length)≤281474976710656:=by rw [hib]; omega
 have HI:=Lib.hid hi
 have HZ:=Lib.hid hz
 have HSZ:=Lib.hid hsz
 clear hi hz hsz hib
 go_wp2_with (first
  | (at_make; refine wpList_make_own _ rfl _ _ 23 rfl w2.heap.size 55 i _ 6 Tryz.underlying23 HI.out HZ.out HSZ.out .i64 .i64 _ (xs.length+ys.length) rfl rfl (by omega) hib2 (by unfold maxLen; omega) (Nat.le_refl _) ?_; intro w3 hown3 hg3; (have hown3':Own encP 6 55 w3 w2.heap.size (.slice (some ⟨w2.heap.size,0,none⟩) 0 (xs.length+ys.length)) ([] : List PostT):=hown3); (have hb23:Below w2.heap.size w2 w3:=only_below hg3 (Nat.le_refl _) (fun g e=>by cases e)); (have hs3:=hb23.size); (have hx3:=hx2.below hb23); clear hown3 hg3)
  | (at_builtin; (refine wpList_append_list (ys:=ys) _ _ 23 _ 56 _ infoP Tryz.underlying23 hown4' hy4 encP_len (by omega) rfl encP_one (by omega) (by omega) (by omega) (by rfl) (by rfl) (by rfl) (by rfl) (by rfl) ?_); intro v5 w5 hown5 hg5; (have hb45:=hown4'.below_of hg5 (by omega)))
  | (at_builtin; (refine wpList_append_list (ys:=xs) _ _ 23 _ 56 _ infoP Tryz.underlying23 hown3' hx3 encP_len (by omega) rfl encP_one (by simp; omega) (by omega) hs3 (by rfl) (by rfl) (by rfl) (by rfl) (by rfl) ?_); intro v4 w4 hown4 hg4; (have hb34:=hown3'.below_of hg4 hs3); (have hs4:=hb34.size); (have hy4:=(hy2.below hb23).below hb34); (have hown4':Own encP 6 55 w4 w2.heap.size v4 xs:=hown4); clear hown4 hg4))
 have hb25:=(hb23.trans hb34).trans hb45
 have hbel5:=bel_adv hbel2 hb25
 have hb5s:=hb25.size
 clear hg5 hb23 hb34 hb45 hy4 hb25 hbel2 hown4' hown3' hx3
 have HO5:=Lib.hid hown5
 obtain ⟨A5,c5,rfl,hS5,hB5,hlc5,hcm5⟩:=hown5.form2 encP_len
 clear hown5 hB5
 have hle:(xs++ys).length≤9223372036854775806:=by simp; omega
 generalize hzs:xs++ys = zs at *
 have HZS:=Lib.hid hzs
 clear hzs
 go_wp2_with fail
 refine (ascending_yes A5 c5 zs _ hS5 hle HAV.out).mono ?_
 rintro e w6 ⟨rfl,q6,rfl⟩
 go_wp2
 go_ret2
 exact ⟨.slice A5 zs.length c5,rfl,by rw [HZS.out]; exact (HO5.out.drewN q6).weaken hs2,below_drewN hbel5 q6⟩
end Go.Proofs.YtjncpgbhokjbfaaGreat
namespace Go.Proofs.YtjncpgbhokjbfaaGreat
open Go.RowKit
theorem selL_take3 (e p : Int) (xs:List PostT) (k:Nat) (h:k < xs.length) : selL e p (xs.take (k+1)) = selL e p (xs.take k)++if selB e p xs[k] = true then [xs[k].line] else []:=by
 rw [List.take_succ_eq_append_getElem h,selL_append]
 congr 1
 unfold selL
 split <;> rename_i hh <;> simp [hh]
theorem result_clo3 (p:PostT) (g:Nat) (em pe : Int) (w:World) (he:Blk w g 3 #[.int .i64 em]) (hp:Blk w (g+1) 3 #[.int .i64 pe]) :
  Calls Tryz.prog 31 #[aggP p,.pointer (some ⟨g,0,none⟩),.pointer (some ⟨g+1,0,none⟩)] w fun e w'=>e = .returned (.bool (selB em pe p))∧Below w.heap.size w w':=by
 have c0:=he.cell 0
 have c1:=hp.cell 0
 have l0:=he.lt
 have l1:=hp.lt
 unfold aggP selB
 rcases h1:(p.employee == em) with _ | _
 ·
  go_enter Tryz.func31,Tryz.ntmps31
  go_wp2
  go_ret
  exact ⟨rfl,below_new w _⟩
 ·
  rcases h2:(p.period == pe) with _ | _
  all_goals
   go_enter Tryz.func31,Tryz.ntmps31
   go_wp2
   go_ret
   exact ⟨rfl,below_new w _⟩
set_option maxRecDepth 100000 in
set_option maxHeartbeats 2000000 in
theorem merged_any (A:Option Addr) (c g : Nat) (em pe : Int) (xs:List PostT) (w:World) (h:SliceOf encP 6 w w.heap.size A xs) (hl:xs.length≤65536)
  (ha:Asc xs) (hv:∀ x ∈ xs,PostOk x) (hme:mErr (selL em pe xs) = 0) (he:Blk w g 3 #[.int .i64 em]) (hp:Blk w (g+1) 3 #[.int .i64 pe]) :
  Calls Tryz.prog 30 #[.slice A xs.length c,.func (.func 31) #[] #[.pointer (some ⟨g,0,none⟩),.pointer (some ⟨g+1,0,none⟩)]] w fun e w'=>∃ B d,e = .returned (.slice B (mR (selL em pe xs)).length d)∧SliceOf encL 3 w' w'.heap.size B (mR (selL em pe xs))∧Below w.heap.size w w':=by
 have HA:=Lib.hid ha
 have HV:=Lib.hid hv
 have HM:=Lib.hid hme
 clear ha hv hme
 go_enter Tryz.func30,Tryz.ntmps30
 go_wp2_with fail
 refine (book_yes A c xs _ h (by omega) HA.out HV.out).mono ?_
 rintro e w1 ⟨rfl,hb1⟩
 go_wp2
 go_loopw [5,15] (fun v i wr=>∃ k:Nat,i = .int .i64 k∧k≤xs.length∧Own encL 3 53 wr w.heap.size v (selL em pe (xs.take k))∧Below w.heap.size w wr) (fun _ i _=>xs.length - (intOf i).toNat)
 case atStart=>exact ⟨0,rfl,by omega,Own.nil_ _ _,hb1⟩
 case round =>
  obtain ⟨k,rfl,hkl,hown,hbel⟩:=hrel
  have hbs:=hbel.size
  by_cases hlt:k < xs.length
  ·
   obtain ⟨b,off,rfl,hb,hc⟩:=(h.below hbel).at_ hlt
   have c0:=hc 0 _ rfl
   have c1:=hc 1 _ rfl
   have c2:=hc 2 _ rfl
   have c3:=hc 3 _ rfl
   have c4:=hc 4 _ rfl
   have c5:=hc 5 _ rfl
   simp only [Nat.add_zero] at c0
   clear hc
   have hfl:(selL em pe (xs.take k)).length < 4294967296:=by
    have h1:=List.length_filter_le (selB em pe) (xs.take k)
    have h2:(xs.take k).length≤k:=by simp; omega
    unfold selL
    rw [List.length_map]
    omega
   have HT:=Lib.hid (selL_take3 em pe xs k hlt)
   have hB1:=(he.below hbel he.lt).alloc
   have hB2:=(hp.below hbel hp.lt).alloc
   go_wp2_with fail
   refine (result_clo3 xs[k] g em pe _ (hB1 _) (hB2 _)).mono ?_
   rintro e w2 ⟨rfl,hb2⟩
   have hN:=(Blk.new wr _ _).adv hb2
   have z0:=hN.cell 0
   have z1:=hN.cell 1
   have z2:=hN.cell 2
   have z3:=hN.cell 3
   have z4:=hN.cell 4
   have z5:=hN.cell 5
   simp only [nqg,nqh,nqi] at z0 z1 z2 z3 z4 z5
   have hlN:=hN.lt
   have hbel2:=bel_adv (bel_alloc hbel _) hb2
   have hown2:=(Own.alloc hown _).adv hb2
   have hbs2:=hbel2.size
   clear hN hb2 hown hB1 hB2 c0 c1 c2 c3 c4 c5 he hp h
   rcases hs:selB em pe xs[k] with _ | _
   ·
    have HS:=Lib.hid hs
    clear hs
    go_wp2_with fail
    go_roundw
    case rel=>exact ⟨k+1,by go_num,by omega,by rw [HT.out,HS.out]; simpa using hown2,hbel2⟩
    case measure=>simp [intOf]; omega
   ·
    have HS:=Lib.hid hs
    clear hs
    go_wp2_with (at_builtin; (refine wpList_append_one _ _ 39 xs[k].line _ 32 _ infoL Tryz.underlying39 hown2 encL_len (by omega) rfl (encL_one _) hfl (by omega) hbs2 (by rfl) (by rfl) (by rfl) (by rfl) (by simp) (by rfl) ?_); intro v2 w6 hown7 hg7)
    have hr6:=fun q hq=>(hown2.block_lt (g:=q) hq).1
    have hb7:Below w.heap.size w w6:=bel_only hbel2 hg7 (fun g e=>hr6 g e)
    go_roundw
    case rel=>exact ⟨k+1,by go_num,by omega,by rw [HT.out,HS.out]; simpa using hown7,hb7⟩
    case measure=>simp [intOf]; omega
  ·
   have ek:xs.take k = xs:=List.take_of_length_le (by omega)
   rw [ek] at hown
   clear ek
   obtain ⟨A5,c5,rfl,hS5,hB5,hlc5,hcm5⟩:=hown.form2 encL_len
   have hz:Hid (∀ x ∈ selL em pe xs,x.code.size≤maxLen):=fun x hx=>by
    obtain ⟨y,hy,rfl⟩:=List.mem_map.1 hx
    exact (HV.out y (List.mem_filter.1 hy).1).code
   have hll:(selL em pe xs).length≤65536:=by
    have h1:=List.length_filter_le (selB em pe) xs
    unfold selL
    rw [List.length_map]
    omega
   generalize hls:selL em pe xs = ls at *
   have HLS:=Lib.hid hls
   clear hls
   go_wp2_with fail
   refine (mergeP_any A5 c5 ls _ hS5 hz.out (by omega)).mono ?_
   rintro e w8 ⟨A8,c8,rfl,hS8,hc8,hcm8,hb8⟩
   rw [HM.out]
   go_wp2
   go_ret
   exact ⟨A8,c8,by rw [HLS.out]; rfl,by rw [HLS.out]; exact hS8,bel_adv hbel hb8⟩
def ResPost (em pe : Int) (xs:List PostT) (w:World) (e:Ending) (w' : World) : Prop:=∃ B d,e = .returned (.slice B (mR (selL em pe xs)).length d)∧SliceOf encL 3 w' w'.heap.size B (mR (selL em pe xs))∧Below w.heap.size w w'
theorem BkInv.post {R:Int} {xs:List PostT} (h:BkInv R xs) (hR:R≤100) : ∀ x ∈ xs,PostOk x:=fun x hx=>by
 obtain ⟨a,b,c,d⟩:=h.ok x hx
 exact ⟨a.1,by omega,b.1,by omega,c.1,by omega,d,h.size x hx⟩
theorem BkInv.asc' {R:Int} {xs:List PostT} (h:BkInv R xs) : Asc xs:=fun i hi=>List.pairwise_iff_getElem.1 h.asc i (i+1) (by omega) hi (by omega)
set_option maxHeartbeats 1000000 in
theorem result_any (A:Option Addr) (c:Nat) (em pe R : Int) (xs:List PostT) (w:World) (h:SliceOf encP 6 w w.heap.size A xs) (hR:0≤R) (hR2:R≤100) (hinv:BkInv R xs) :
  Calls Tryz.prog 14 #[.slice A xs.length c,.int .i64 em,.int .i64 pe] w (ResPost em pe xs w):=by
 have hlen:=hinv.len
 have HA:=Lib.hid hinv.asc'
 have HV:=Lib.hid (hinv.post hR2)
 have HM:=Lib.hid (hinv.cur em pe).1
 have hsz:(w.alloc (.cells #[.int .i64 em] 3)).heap.size = w.heap.size+1:=by show (w.heap.push _).size = _; simp
 have hp:Blk ((w.alloc (.cells #[.int .i64 em] 3)).alloc (.cells #[.int .i64 pe] 3)) (w.heap.size+1) 3 #[.int .i64 pe]:=by
  have:=Blk.new (w.alloc (.cells #[.int .i64 em] 3)) 3 #[.int .i64 pe]
  rw [hsz] at this
  exact this
 have HP:=Lib.hid hp
 clear hp hsz hinv
 go_enter Tryz.func14,Tryz.ntmps14
 go_wp2_with fail
 refine (merged_any A c w.heap.size em pe xs _ ((h.advA _).advA _) (by omega) HA.out HV.out HM.out ((Blk.new w _ _).alloc _) HP.out).mono ?_
 rintro e w2 ⟨B,d,rfl,hS2,hb2⟩
 go_wp2
 go_ret
 exact ⟨B,d,rfl,hS2,bel_adv (bel_alloc (below_new w _) _) hb2⟩
end Go.Proofs.YtjncpgbhokjbfaaGreat
namespace Go.Proofs.YtjncpgbhokjbfaaGreat
open Go.RowKit
theorem fieldLines3 (q0 q1 q2 q3 q4 q5 : Int) (A:Option Addr) (n c : Nat) (w:World) : Sem.run Tryz.prog (Instr.field 41 (.agg #[.int .i64 q0,.int .i64 q1,.int .i64 q2,.int .i64 q3,.int .i64 q4,.int .i64 q5,.slice A n c]) 2) w = .ok (.slice A n c) w:=by kernel_rfl
set_option maxRecDepth 100000 in
set_option maxHeartbeats 8000000 in
theorem corrects_walk (B:Option Addr) (lcap:Nat) (l:List Int) (w:World) (hI:SliceOf encI 1 w w.heap.size B l) (hIl:l.length≤9223372036854775807) (hIb : ∀ x ∈ l,I64 x) :
  Calls Tryz.prog 4 #[.slice B l.length lcap] w fun e w'=>e = .returned (.bool true)∧Below w.heap.size w w':=by
 have HIB:=Lib.hid hIb; clear hIb
 go_enter Tryz.func4,Tryz.ntmps4
 go_wp2_with fail
 refine (new_any B l lcap _ hI hIl HIB.out).mono ?_
 rintro e w1 ⟨rfl,hdk1,hb1⟩
 obtain ⟨g0,hg0⟩ : ∃ g0,g0 = w.heap.size:=⟨_,rfl⟩
 rw [← hg0] at hdk1 ⊢
 have hge:w.heap.size≤g0:=by omega
 clear hg0 hI
 go_wp2_with fail
 go_loopw [4,5] (fun v i wr=>∃ (k:Nat) (xs:List PostT) (A:Option Addr) (c:Nat),k≤5∧i = .int .i64 ((k:Int)+1)∧v = .slice A xs.length c∧Hid (BkInv k xs)∧FrS encP 6 wr (g0+1) A xs∧DeckIn wr g0 (1000 * k)∧Below w.heap.size w wr) (fun _ i _=>6 - (intOf i).toNat)
 case atStart=>exact ⟨0,[],none,0,by omega,rfl,rfl,BkInv.nil_,FrS.nil_ _ _,hdk1,hb1⟩
 case round =>
  obtain ⟨k,xs,A,c,hk,rfl,rfl,hinv,hF,hdk,hbel⟩:=hrel
  clear hdk1 hb1
  by_cases hlt1:k < 5
  ·
   have hle:((k:Int)+1≤5):=by omega
   go_wp2_with fail
   refine (next_any g0 (1000 * k) 2 _ (by omega) (by omega) (by omega) hdk).mono ?_
   rintro e w1 ⟨r1,rfl,ha1,hb1,hd1,hg1⟩
   go_wp2_with fail
   refine (next_any g0 (1000 * k+1) 2 _ (by omega) (by omega) (by omega) hd1).mono ?_
   rintro e w2 ⟨r2,rfl,ha2,hb2,hd2,hg2⟩
   go_wp2_with fail
   refine (slip_any g0 (1000 * k+1+1) _ (by omega) hd2).mono ?_
   rintro e w4 ⟨q0,q1,q2,q3,q4,q5,A4,now,c4,rfl,hz4,hS4,hd4,hg4⟩
   have hG4:=only_trans (only_trans hg1 hg2) hg4
   have hF4:=hF.grown hG4 (fun g e=>by injection e; omega)
   have hbel4:Below w.heap.size w w4:=hbel.trans (only_below hG4 hbel.size (fun q e=>by injection e; omega))
   obtain ⟨em,hem⟩ : ∃ em,em = 1+r1:=⟨_,rfl⟩
   have hem1:1≤em∧em≤2:=by omega
   have hp1:0≤r2∧r2≤1:=by omega
   obtain ⟨p1,p2,p3,p4⟩:=hinv.out.step (e:=em) (p:=r2) (by omega) (by omega) hem1 hp1 hz4
   have hcz:=(hinv.out.cur em r2).2
   have HP1:=Lib.hid p1
   have HP2:=Lib.hid p2
   have HP3:=Lib.hid p3
   have HP4:=Lib.hid p4
   have hzs:=hcz.size
   have hlo:=hcz.len
   have hzn:=hz4.size
   have hln:=hz4.len
   clear p1 p2 p3 p4 hcz hz4 hg1 hg2 hg4 hG4 hF hbel hd1 hd2 hdk
   have hfl:=fieldLines3 q0 q1 q2 q3 q4 q5 A4 now.length c4
   go_wp2_with fail
   clear hfl
   rw [← hem]
   clear hem ha1 hb1
   refine (result_any A c em r2 k xs _ hF4.sl (by omega) (by omega) hinv.out).mono ?_
   rintro e w5 ⟨A5,c5,rfl,hS5,hb5⟩
   have hF5:=hF4.adv hb5
   have hS45:=hS4.adv hb5
   have hd5:=hd4.bel hb5
   have hbel5:=bel_adv hbel4 hb5
   clear hF4 hS4 hd4 hbel4 hb5
   go_wp2_with fail
   refine (postings_any ((k:Int)+1) em r2 A5 A4 c5 c4 _ now _ hS5 hzs (by omega) hS45 hzn (by omega)).mono ?_
   rintro e w6 ⟨v6,rfl,ho6,hb6⟩
   obtain ⟨A6,c6,rfl,hS6,hf6,_⟩:=ho6.form encP_len
   rw [HP1.out]
   have hF6:=hF5.adv hb6
   have hS46:=hS45.adv hb6
   have hd6:=hd5.bel hb6
   have hbel6:=bel_adv hbel5 hb6
   clear hF5 hS45 hd5 hbel5 hb6 ho6 hS5 hzs hlo hf6
   have hlen:=HP2.out.len
   have hasc:=HP2.out.asc'
   have hpost:=HP2.out.post (by omega)
   have hpx:∀ x ∈ xs,PostOk x:=fun x hx=>hpost x (List.mem_append_left _ hx)
   have hpy:∀ x ∈ pR ((k:Int)+1) em r2 (mR (selL em r2 xs)) now,PostOk x:=fun x hx=>hpost x (List.mem_append_right _ hx)
   rw [List.length_append] at hlen
   go_wp2_with fail
   refine (add_yes A A6 c c6 xs _ _ hF6.sl hS6 (by omega) hinv.out.asc' hasc hpx hpy).mono ?_
   rintro e w7 ⟨v7,rfl,ho7,hb7⟩
   have hbase:g0+1≤w6.heap.size:=by have:=hd6.lt; omega
   obtain ⟨A7,c7,rfl,hF7'⟩:=ho7.fresh encP_len
   have hF7:=hF7'.weaken hbase
   have hF67:=hF6.adv hb7
   have hS47:=hS46.adv hb7
   have hd7:=hd6.bel hb7
   have hbel7:=bel_adv hbel6 hb7
   clear hF7' hF6 hS46 hd6 hbel6 hb7 ho7 hS6 hlen hasc hpost hpx hpy
   generalize hys:xs++pR ((k:Int)+1) em r2 (mR (selL em r2 xs)) now = ys at *
   go_wp2_with fail
   refine (result_any A7 c7 em r2 ((k:Int)+1) ys _ hF7.sl (by omega) (by omega) HP2.out).mono ?_
   rintro e w8 ⟨A8,c8,rfl,hS8,hb8⟩
   rw [HP3.out] at hS8 ⊢
   have hF8:=hF7.adv hb8
   have hF68:=hF67.adv hb8
   have hS48:=hS47.adv hb8
   have hd8:=hd7.bel hb8
   have hbel8:=bel_adv hbel7 hb8
   clear hF7 hF67 hS47 hd7 hbel7 hb8
   go_wp2_with fail
   refine (sameL_self A8 A4 c8 c4 now _ hS8 hS48 (by omega)).mono ?_
   rintro e w9 ⟨rfl,q9,hw9⟩
   have hb9:Below w8.heap.size w8 w9:=by rw [hw9]; exact below_drewN (Below.refl _ _) q9
   have hF9:=hF8.adv hb9
   have hF69:=hF68.adv hb9
   have hd9:=hd8.bel hb9
   have hbel9:=bel_adv hbel8 hb9
   clear hw9 hb9 hF8 hF68 hd8 hbel8 hS8 hS48
   go_wp2_with fail
   have HE1:=Lib.hid (congrArg mR (HP4.out (3 - em) r2 (by omega)))
   have HE2:=Lib.hid (congrArg mR (HP4.out em (1 - r2) (by omega)))
   have HL1:Hid ((mR (selL (3 - em) r2 xs)).length≤9223372036854775807):=by have:=(hinv.out.cur (3 - em) r2).2.len; show _≤_; omega
   have HL2:Hid ((mR (selL em (1 - r2) xs)).length≤9223372036854775807):=by have:=(hinv.out.cur em (1 - r2)).2.len; show _≤_; omega
   refine (result_any A7 c7 (3 - em) r2 ((k:Int)+1) ys _ hF9.sl (by omega) (by omega) HP2.out).mono ?_
   rintro e w10 ⟨A10,c10,rfl,hS10,hb10⟩
   rw [HE1.out] at hS10 ⊢
   have hF10:=hF9.adv hb10
   have hF610:=hF69.adv hb10
   have hd10:=hd9.bel hb10
   have hbel10:=bel_adv hbel9 hb10
   clear hF9 hF69 hd9 hbel9 hb10
   go_wp2_with fail
   refine (result_any A c (3 - em) r2 k xs _ hF610.sl (by omega) (by omega) hinv.out).mono ?_
   rintro e w11 ⟨A11,c11,rfl,hS11,hb11⟩
   have hF11:=hF10.adv hb11
   have hF611:=hF610.adv hb11
   have hd11:=hd10.bel hb11
   have hbel11:=bel_adv hbel10 hb11
   have hS10':=hS10.adv hb11
   clear hF10 hF610 hd10 hbel10 hb11 hS10
   go_wp2_with fail
   refine (sameL_self A10 A11 c10 c11 _ _ hS10' hS11 HL1.out).mono ?_
   rintro e w12 ⟨rfl,q12,hw12⟩
   have hb12:Below w11.heap.size w11 w12:=by rw [hw12]; exact below_drewN (Below.refl _ _) q12
   have hF12:=hF11.adv hb12
   have hF612:=hF611.adv hb12
   have hd12:=hd11.bel hb12
   have hbel12:=bel_adv hbel11 hb12
   clear hw12 hb12 hF11 hF611 hd11 hbel11 hS10' hS11
   go_wp2_with fail
   refine (result_any A7 c7 em (1 - r2) ((k:Int)+1) ys _ hF12.sl (by omega) (by omega) HP2.out).mono ?_
   rintro e w13 ⟨A13,c13,rfl,hS13,hb13⟩
   rw [HE2.out] at hS13 ⊢
   have hF13:=hF12.adv hb13
   have hF613:=hF612.adv hb13
   have hd13:=hd12.bel hb13
   have hbel13:=bel_adv hbel12 hb13
   clear hF12 hF612 hd12 hbel12 hb13
   go_wp2_with fail
   refine (result_any A c em (1 - r2) k xs _ hF613.sl (by omega) (by omega) hinv.out).mono ?_
   rintro e w14 ⟨A14,c14,rfl,hS14,hb14⟩
   have hF14:=hF13.adv hb14
   have hF614:=hF613.adv hb14
   have hd14:=hd13.bel hb14
   have hbel14:=bel_adv hbel13 hb14
   have hS13':=hS13.adv hb14
   clear hF13 hF613 hd13 hbel13 hb14 hS13
   go_wp2_with fail
   refine (sameL_self A13 A14 c13 c14 _ _ hS13' hS14 HL2.out).mono ?_
   rintro e w15 ⟨rfl,q15,hw15⟩
   have hb15:Below w14.heap.size w14 w15:=by rw [hw15]; exact below_drewN (Below.refl _ _) q15
   have hF15:=hF14.adv hb15
   have hF615:=hF614.adv hb15
   have hd15:=hd14.bel hb15
   have hbel15:=bel_adv hbel14 hb15
   clear hw15 hb15 hF14 hF614 hd14 hbel14 hS13' hS14
   go_wp2_with fail
   go_roundw
   case rel=>exact ⟨k+1,ys,A7,c7,by omega,by go_num,rfl,HP2.out,hF15,hd15.mono (by omega),hbel15⟩
   case measure=>simp [intOf]; omega
  ·
   have hle:¬ ((k:Int)+1≤5):=by omega
   go_wp2_with fail
   refine (awake_any _).mono ?_
   rintro e w6 ⟨rfl,hb6⟩
   go_wp2_with fail
   go_ret
   exact ⟨rfl,bel_adv hbel hb6⟩
end Go.Proofs.YtjncpgbhokjbfaaGreat
namespace Go.Proofs.YtjncpgbhokjbfaaGreat.deltaCorrects
open Go.ChangeShapes Go.WideShapes Go.ChangeAt Go.RowKit
open Go.ChangeMaps (open_string shut_string)
theorem own : ownKnob Tryz.prog.godebug = none:=by kernel_rfl
theorem laidOut : laidOutB Tryz.prog = true:=by kernel_rfl
set_option maxRecDepth 100000 in
theorem lifted (os:Os) (started:os.Started) (H:Type) (enc:TypeId × Value→H) :
  ReturnsInHanded {} Tryz.checked os 4 .any (Rows.deltaCorrectsSpec.pre6 enc Tryz.prog Tryz.f4 Rows.deltaCorrectsRow.domain false) (Rows.deltaCorrectsSpec.post enc Tryz.prog Tryz.f4 false true false false):=by
 refine returnsInHanded_of_change (C:=Tryz.checked) own started (by kernel_rfl) Tryz.func4
  (ChangeSpec.witness6 (enc:=enc) (C:=Tryz.checked) false ⟨#[],#[.slice none 0 0],[]⟩ 8 (by kernel_rfl) (by kernel_rfl) (by kernel_rfl) (by kernel_rfl)) ?_
 intro W base args ds gs before hval0 hW _ _
 have hval:∀ (j:Nat) t v,Tryz.f4.params[j]? = some t→args[j]? = some v→Value.okWide Tryz.prog W .any base t v:=hval0
 have hW':=hW
 obtain ⟨p,q,hA0,hV,rfl,_,_⟩:=hW
 have hA:DataW.TrodAll enc Tryz.prog W 0 (fun _=>true) true Tryz.f4.params.toList args.toList ds p:=hA0
 rw [Tryz.params4] at hA hval
 obtain ⟨v0,vs0,d0,ds0,p0,q0,hargs,rfl,rfl,h0,r0⟩:=trodAll_cons hA
 obtain ⟨rfl,rfl,rfl⟩:=trodAll_nil r0
 obtain rfl:args = #[v0]:=by cases args; simp_all
 obtain ⟨rfl,rfl⟩:=trodVars_none hV
 obtain ⟨a0,len0,cap0,rfl⟩:=okWide_slice Tryz.underlying22 (hval 0 22 v0 rfl rfl)
 have k0:=h0
 have lt0:∀ x ∈ p0,x.block < W.heap.size:=by obtain ⟨m,hm⟩:=k0; exact DataW.trod_lt m _ _ _ hm
 obtain ⟨xs0,rfl,hS0,hX0,hlc0,hcm0⟩:=openI h0
 have hl0:=Nat.le_trans hlc0 hcm0
 clear hA0 hval0
 refine (corrects_walk a0 cap0 xs0 W hS0 hl0 hX0).mono fun e W' ⟨he,bel⟩=>?_
 subst he
 exact ⟨_,rfl,_,_,_,[],_,[],hW',trodAll_mk1 (shut_bool Tryz.underlying4 _),(trodAll_cons_mk (Below.trod laidOut (by kernel_rfl) (of_decide_eq_true (by kernel_rfl)) k0 bel lt0) trodAll_mk0),rfl,bel.frame _,fun h=>by cases h⟩
theorem over : Rows.deltaCorrectsRow.holds Tryz.pinned (OpenSpec.ofChange Rows.deltaCorrectsSpec) :=
 OpenClaim.holds_of_wide 4 Tryz.f4 rfl rfl rfl rfl rfl rfl rfl ⟨rfl,rfl,rfl,rfl,rfl⟩ rfl rfl rfl rfl rfl (by kernel_rfl) Tryz.func4 (by kernel_rfl)
  (of_decide_eq_true (by kernel_rfl)) (by unfold Func.isWrapper; first | (rw [if_pos (by decide +kernel)]; kernel_rfl) | (rw [if_neg (by decide +kernel)]; exact ⟨rfl,rfl⟩))
  (fun os started H enc _=>lifted os started H enc)
theorem proved : Rows.DeltaCorrectsSaid:=over
#print axioms proved
end Go.Proofs.YtjncpgbhokjbfaaGreat.deltaCorrects
