/- Joined texts: TgI2 TgI3 TgI4. Conditions: as stated. -/
import Derived.Test.YtopekilofdadnaaGreatDoorJTvN
import Derived.Test.YtopekilofdadnaaGreatDoorJTgI
import Derived.Test.YtopekilofdadnaaGreatDoorJKeyK
namespace Go.Proofs.YtopekilofdadnaaGreatDoor
open Go.RowKit Go.Sort Go.Shelf
theorem ltOf_false {α:Type} {C:α→α→Int} (h:Tot C) {a b : α} (hl:ltOf C b a = false) (hn:C a b ≠ 0) : C a b = -1:=by
 unfold ltOf at hl
 simp only [decide_eq_false_iff_not] at hl
 have:=h.vals a b
 have:=h.swap a b
 omega
theorem perm_uni {α:Type} {C:α→α→Int} (h:Tot C) {xs ys : List α} (hp:ys.Perm xs) (hs:ys.Pairwise (fun a b=>ltOf C b a = false)) (hn:xs.Pairwise (fun a b=>C a b ≠ 0)) : ys = uniC C xs:=by
 have hn2:ys.Pairwise (fun a b=>C a b ≠ 0):=hn.perm hp.symm (fun {a b} h1 h2=>h1 (by have:=h.swap b a; omega))
 have h1:srtC C ys:=(hs.and hn2).imp fun {a b} hab=>ltOf_false h hab.1 hab.2
 refine srtC_ext h h1 (uniC_srt' h _ hn) fun z=>?_
 rw [hp.mem_iff,(uniC_perm _ hn).mem_iff]
theorem keys_ne {l:List EvT} (h : (l.map EvT.key).Nodup) : l.Pairwise (fun a b=>evC a b ≠ 0):=by
 rw [List.Nodup,List.pairwise_map] at h
 exact h.imp fun {a b} hab e=>hab (by rw [evC_zero.1 e])
theorem cntN_filter (emp:Int) : ∀ (l:List EvT) (k:Option KeyT),(l.map EvT.key).Nodup→(∀ x ∈ l,k ≠ some x.key)→cntN emp k l = l.filter (fun e=>decide (e.emp = emp))
 | [],_,_,_=>rfl
 | x :: l,k,hn,hk=>by
  rw [List.map_cons,List.nodup_cons] at hn
  rw [cntN,if_neg (hk x (by simp)),cntN_filter emp l (some x.key) hn.2 (fun y hy e=>by
   injection e with e
   exact hn.1 (by rw [e]; exact List.mem_map_of_mem hy))]
  by_cases h:x.emp = emp
  ·
   rw [if_pos h,List.filter_cons,if_pos (by simpa using h)]; rfl
  ·
   rw [if_neg h,List.filter_cons,if_neg (by simpa using h)]; rfl
theorem uni_nodup {l:List EvT} (h : (l.map EvT.key).Nodup) : ((uniC evC l).map EvT.key).Nodup:=((uniC_perm (C:=evC) l (keys_ne h)).map EvT.key).nodup_iff.2 h
theorem cntF_filter (emp:Int) {l:List EvT} (h : (l.map EvT.key).Nodup) : cntF emp l = (uniC evC l).filter (fun e=>decide (e.emp = emp)):=cntN_filter emp _ none (uni_nodup h) (fun _ _ e=>by cases e)
theorem filter_take {α:Type} (p:α→Bool) (l:List α) (k:Nat) (h:k < l.length) : (l.take (k+1)).filter p = (l.take k).filter p++if p l[k] then [l[k]] else []:=by
 rw [List.take_succ_eq_append_getElem h,List.filter_append]
 congr 1
 rw [List.filter_cons]
 rfl
section
set_option maxHeartbeats 2000000
set_option maxRecDepth 100000
theorem guardEv : Tryz.prog.eqGuardType Tryz.prog.depth 41 = false:=by kernel_rfl
theorem neEv (x y : EvT) (h:x.key ≠ y.key) (w:World) : Sem.run Tryz.prog (binOp .eql 41 (.agg #[.int .i64 x.key.term,.int .i64 x.key.seq,.int .i64 x.emp,.int .i64 x.time,.int .i64 x.kind,.int .i64 x.target.term,.int .i64 x.target.seq]) (.agg #[.int .i64 y.key.term,.int .i64 y.key.seq,.int .i64 y.emp,.int .i64 y.time,.int .i64 y.kind,.int .i64 y.target.term,.int .i64 y.target.seq])) w = .ok (.bool false) w:=by
 have u0:=Tryz.underlying3
 have a0:=Tryz.isAgg3
 have z0:=Tryz.sizeOf3
 have hS:Tryz.prog.underlying 41 = some (.struct (Tryz.prog.fieldsOf 41)):=by kernel_rfl
 have hp:Tryz.prog.stoodInHeld 41 = false:=by kernel_rfl
 rw [run_eql_struct,show (10000:Nat) = 9999+1 from rfl,run_equalIn_agg w 9999 41 _ _ hS hp]
 simp only [Program.fieldsOf,Tryz.underlying41]
 have hS2:Tryz.prog.underlying 39 = some (.struct (Tryz.prog.fieldsOf 39)):=by kernel_rfl
 have hp2:Tryz.prog.stoodInHeld 39 = false:=by kernel_rfl
 have hag:=Tryz.isAgg39
 have hsz:=Tryz.sizeOf39
 have hin:=fun v v'=>run_equalIn_agg (P:=Tryz.prog) w 9998 39 v v' hS2 hp2
 simp only [Program.fieldsOf,Tryz.underlying39] at hin
 rw [show (9998+1:Nat) = 9999 from rfl] at hin
 clear hS hS2 hp hp2
 have hne:¬ (x.key.term = y.key.term∧x.key.seq = y.key.seq):=fun e=>h (by
  cases hx:x.key; cases hy:y.key
  rw [hx,hy] at e
  simp only at e
  rw [e.1,e.2])
 by_cases h1:x.key.term = y.key.term
 ·
  have h2:¬ x.key.seq = y.key.seq:=fun e=>hne ⟨h1,e⟩
  clear hne h
  go_simp
 ·
  clear hne h
  go_simp
theorem compactI (A:Option Addr) (c:Nat) (l:List EvT) (w:World) (hS:SliceOf encEv 7 w w.heap.size A l) (hl:l.length≤1024) (hn : (l.map EvT.key).Nodup) :
  Calls Tryz.prog 119 #[.slice A l.length c] w fun e w'=>e = .returned (.slice A l.length c)∧Below w.heap.size w w':=by
 have HN:=Lib.hid hn
 clear hn
 by_cases h2:l.length < 2
 ·
  go_enter Tryz.func119,Tryz.ntmps119
  go_wp2
  go_ret
  exact ⟨rfl,Below.refl _ _⟩
 ·
  have hgd:=guardEv
  go_enter Tryz.func119,Tryz.ntmps119
  go_wp2
  go_loopw [3] (fun i wr=>∃ k q:Nat,1≤k∧k≤l.length∧i = .int .i64 k∧Hid (wr = w.drewN q)) (fun i _=>l.length - (intOf i).toNat)
  case atStart=>exact ⟨1,0,by omega,by omega,rfl,rfl⟩
  case round =>
   obtain ⟨k,q,hk1,hk,rfl,hw⟩:=hrel
   have hx:SliceOf encEv 7 wr w.heap.size A l:=by rw [hw.out]; exact hS
   by_cases hlt:k < l.length
   ·
    obtain ⟨m,rfl⟩ : ∃ m,k = m+1:=⟨k - 1,by omega⟩
    have hlm:m < l.length:=by omega
    have hne:l[m+1].key ≠ l[m].key:=fun e=>by
     have h3:=HN.out
     rw [List.Nodup,List.pairwise_iff_getElem] at h3
     exact h3 m (m+1) (by simpa using hlm) (by simpa using hlt) (by omega) (by simpa using e.symm)
    have hq:=neEv _ _ hne
    obtain ⟨b1,off1,hA1,hb1,hc1⟩:=hx.at_ hlt
    obtain ⟨b2,off2,hA2,hb2,hc2⟩:=hx.at_ hlm
    rw [hA1] at hA2
    injection hA2 with hA2
    injection hA2 with hA2 hA3
    subst hA2 hA3 hA1
    have c0:=hc1 0 _ rfl
    have c1:=hc1 1 _ rfl
    have c2:=hc1 2 _ rfl
    have c3:=hc1 3 _ rfl
    have c4:=hc1 4 _ rfl
    have c5:=hc1 5 _ rfl
    have c6:=hc1 6 _ rfl
    simp only [Nat.add_zero] at c0
    have d0:=hc2 0 _ rfl
    have d1:=hc2 1 _ rfl
    have d2:=hc2 2 _ rfl
    have d3:=hc2 3 _ rfl
    have d4:=hc2 4 _ rfl
    have d5:=hc2 5 _ rfl
    have d6:=hc2 6 _ rfl
    simp only [Nat.add_zero] at d0
    have hmi:(m:Int) < (l.length:Int):=by omega
    have hmi2:(m:Int)+1 < (l.length:Int):=by omega
    clear hc1 hc2 hne
    go_wp2
    go_quiet (fail)
    go_wp2
    go_roundw
    case rel=>exact ⟨m+2,q+nq,by omega,by omega,by go_num,by rw [Hid,hw.out,World.drewN_drewN]⟩
    case measure=>simp [intOf]; omega
   ·
    go_wp2
    go_ret
    exact ⟨rfl,by rw [hw.out]; exact below_drewN (Below.refl _ _) q⟩
def UniPost (l:List EvT) (w:World) (e:Ending) (w' : World) : Prop:=∃ A c,e = .returned (.slice A l.length c)∧SliceOf encEv 7 w' w'.heap.size A (uniC evC l)∧Below w.heap.size w w'
theorem unionI (A:Option Addr) (c:Nat) (l:List EvT) (w:World) (hS:SliceOf encEv 7 w w.heap.size A l) (hl:EvsOk l) : Calls Tryz.prog 79 #[.slice A l.length c,.slice none 0 0] w (UniPost l w):=by
 have HL:=Lib.hid hl
 have hlen:=hl.len
 clear hl
 go_enter Tryz.func79,Tryz.ntmps79
 go_wp2_with fail
 refine (concatI A c l w.heap.size _ (hS.advA _) hlen (Blk.new _ _ _)).mono ?_
 rintro e w1 ⟨v,rfl,hown,hb1⟩
 have hbel:=bel_adv (below_new w _) hb1
 obtain ⟨A1,c1,hv⟩:=hown.slice encEv_len
 subst hv
 have HO:=Lib.hid hown
 have hsz:=hb1.size
 rw [World.size_alloc] at hsz
 clear hb1 hown
 go_wp2_with fail
 refine (sortEvC A1 c1 _ l _ HO.out (by omega)).mono ?_
 rintro e w2 ⟨rfl,ys,hp,hs,hS2,hg2⟩
 have hys:=Lib.hid (perm_uni evC_tot hp hs (keys_ne HL.out.nd))
 have hyl:=Lib.hid hp.length_eq
 have hS2:SliceOf encEv 7 w2 w2.heap.size A1 ys:=hS2
 have hbel2:=bel_only hbel hg2 (fun g hg=>by have:=(HO.out.block_lt hg).1; rw [World.size_alloc] at this; omega)
 have hnd:(ys.map EvT.key).Nodup:=(hp.map EvT.key).nodup_iff.2 HL.out.nd
 have HND:=Lib.hid hnd
 clear hp hs hg2 hnd
 rw [← hyl.out]
 go_wp2_with fail
 refine (compactI A1 c1 ys _ hS2 (by rw [hyl.out]; omega) HND.out).mono ?_
 rintro e w3 ⟨rfl,hb3⟩
 go_wp2
 go_ret
 exact ⟨A1,c1,by rw [← hyl.out]; rfl,by rw [← hys.out]; exact hS2.adv hb3,bel_adv hbel2 hb3⟩
end
end Go.Proofs.YtopekilofdadnaaGreatDoor
namespace Go.Proofs.YtopekilofdadnaaGreatDoor
open Go.RowKit Go.Sort Go.Shelf
theorem zeroInt (w:World) : (zeroValue 3).run Tryz.prog w = .ok (.int .i64 0) w:=by kernel_rfl
theorem zeroBool (w:World) : (zeroValue 4).run Tryz.prog w = .ok (.bool false) w:=by kernel_rfl
section
variable {P:Program} {k t e:TypeId} {κ:Type} {E:KeyE P k κ} {w:World} {ops:Array Oper} {rest:List Oper} {o:Oper} {a:Act} {Q:Exit→Act→World→Prop} {b n:Nat} {f:κ→Option Value}
theorem wpList_getW (hw:Region.wanted o (yielded ops a.tmps) = true) (m y : Operand) (t:TypeId) (hop:o.op = Op.lookup t m y false) (ht:P.underlying t = some (.map k e)) (z:Value) (hz : (zeroValue e).run P w = .ok z w) (h:MapAt E w b n f) (x:κ) (hx:E.good x)
  (hm:a.eval m = .map (some b)) (hy:a.eval y = E.val x) (v:Value) (hv:(f x).getD z = v) (hK:wpList P ops Q rest (a.put o.dst v) w) : wpList P ops Q (o :: rest) a w:=by
 refine BigFrame.wpList_want hw fun K' hK'=>?_
 unfold Oper.wp
 simp [execOp,hop,hm,hy,h.get ht hz hx,Result.andThen,hv]
 exact hK' _ _ hK
end
theorem cntF_len {emp:Int} {l:List EvT} (h:EvsOk l) : (cntF emp l).length≤1024:=by
 have h1:=(cntN_sub emp (uniC evC l) none).length_le
 rw [(uniC_perm (C:=evC) l (keys_ne h.nd)).length_eq] at h1
 exact Nat.le_trans h1 h.len
section
set_option maxHeartbeats 4000000
set_option maxRecDepth 100000
theorem neKey (a c x y : Int) (h : ¬ (a = x∧c = y)) (w:World) : Sem.run Tryz.prog (binOp .eql 39 (.agg #[.int .i64 a,.int .i64 c]) (.agg #[.int .i64 x,.int .i64 y])) w = .ok (.bool false) w:=by
 have hb:(a == x && c == y) = false:=by
  rw [Bool.and_eq_false_iff]
  by_cases h1:a = x
  ·
   exact .inr (by simpa using fun h2=>h ⟨h1,h2⟩)
  ·
   exact .inl (by simpa using h1)
 rw [eqKey,hb]
theorem countI (A:Option Addr) (c:Nat) (l:List EvT) (emp:Int) (w:World) (hS:SliceOf encEv 7 w w.heap.size A l) (hl:EvsOk l) :
  Calls Tryz.prog 39 #[.slice A l.length c,.int .i64 emp] w fun e w'=>∃ v,e = .returned v∧Own encEv 7 41 w' w.heap.size v (cntF emp l)∧Below w.heap.size w w':=by
 have HU:=Lib.hid (uni_nodup hl.nd)
 have HC:=Lib.hid (cntF_filter emp hl.nd)
 have HUL:Hid (l.length = (uniC evC l).length):=(uniC_perm (C:=evC) l (keys_ne hl.nd)).length_eq.symm
 have hlen:=hl.len
 have HL:=Lib.hid hl
 clear hl
 go_enter Tryz.func39,Tryz.ntmps39
 go_wp2_with fail
 refine (unionI A c l _ hS HL.out).mono ?_
 rintro e w1 ⟨A1,c1,rfl,hS1,hb1⟩
 have hs1:=hb1.size
 have hul:=HUL.out
 clear HUL
 rw [hul] at hlen ⊢
 generalize uniC evC l = u at HU HC hul hS1 hlen ⊢
 clear hul
 go_wp2
 go_loopw [5,13] (fun r i wr=>∃ k:Nat,k≤u.length∧i = .int .i64 k∧Own encEv 7 41 wr w1.heap.size r ((u.take k).filter (fun e=>decide (e.emp = emp)))∧Below w1.heap.size w1 wr) (fun _ i _=>u.length - (intOf i).toNat)
 case atStart=>exact ⟨0,by omega,rfl,by simpa using Own.nil_ _ _,Below.refl _ _⟩
 case round =>
  obtain ⟨k,hk,rfl,hown,hbr⟩:=hrel
  have hbs:=hbr.size
  have hx:SliceOf encEv 7 wr w1.heap.size A1 u:=hS1.below hbr
  by_cases hlt:k < u.length
  ·
   have HT:=Lib.hid (filter_take (fun e:EvT=>decide (e.emp = emp)) u k hlt)
   have hfl:((u.take k).filter (fun e=>decide (e.emp = emp))).length≤1024:=Nat.le_trans (List.length_filter_le _ _) (by simp; omega)
   obtain ⟨b1,off1,hA1,hq,hc1⟩:=hx.at_ hlt
   have c0:=hc1 0 _ rfl
   have c1:=hc1 1 _ rfl
   have c2:=hc1 2 _ rfl
   have c3:=hc1 3 _ rfl
   have c4:=hc1 4 _ rfl
   have c5:=hc1 5 _ rfl
   have c6:=hc1 6 _ rfl
   simp only [Nat.add_zero] at c0
   have hbw:b1 < wr.heap.size:=by omega
   have hki:(k:Int) < (u.length:Int):=by omega
   have hownA:=Lib.hid (hown.alloc (.cells #[.int .i64 u[k].key.term,.int .i64 u[k].key.seq,.int .i64 u[k].emp,.int .i64 u[k].time,.int .i64 u[k].kind,.int .i64 u[k].target.term,.int .i64 u[k].target.seq] 41))
   have hbrA:=Lib.hid (bel_alloc hbr (.cells #[.int .i64 u[k].key.term,.int .i64 u[k].key.seq,.int .i64 u[k].emp,.int .i64 u[k].time,.int .i64 u[k].kind,.int .i64 u[k].target.term,.int .i64 u[k].target.seq] 41))
   rcases k with _ | m
   ·
    subst hA1
    simp only [Nat.zero_mul,Nat.add_zero] at c0 c1 c2 c3 c4 c5 c6
    clear hc1 hx hown
    generalize u[0] = ev at c0 c1 c2 c3 c4 c5 c6 HT hownA hbrA
    obtain ⟨⟨kt,ks⟩,em,ti,ki,tt,ts⟩:=ev
    simp only at c0 c1 c2 c3 c4 c5 c6 HT hownA hbrA
    by_cases he:emp = em
    ·
     subst he
     rw [if_pos (by simp)] at HT
     go_wp2
     go_quiet (fail)
     go_wp2_with (at_builtin; go_loud (refine wpList_append_one _ _ 42 (⟨⟨kt,ks⟩,emp,ti,ki,⟨tt,ts⟩⟩ : EvT) _ 56 _ infoEv Tryz.underlying42 (hownA.out.drewN _) encEv_len (by omega) rfl (encEv_one _) (Nat.lt_of_le_of_lt hfl (by omega)) (by omega) (by simp; omega) (by rfl) (by rfl) (by rfl) (by rfl) (by simp) (by rfl) ?_); intro v2 w6 hown6 hg6)
     go_roundw
     case rel=>exact ⟨1,by omega,by go_num,by rw [HT.out]; exact hown6,bel_only (below_drewN hbrA.out _) hg6 (fun g hg=>by have:=(hownA.out.block_lt hg).1; omega)⟩
     case measure=>simp [intOf]; omega
    ·
     rw [if_neg (by simpa using fun e=>he e.symm)] at HT
     go_wp2
     go_quiet (fail)
     go_wp2
     go_roundw
     case rel=>exact ⟨1,by omega,by go_num,by rw [HT.out,List.append_nil]; exact hownA.out.drewN _,below_drewN hbrA.out _⟩
     case measure=>simp [intOf]; omega
   ·
    have hlm:m < u.length:=by omega
    have hne:¬ (u[m].key.term = u[m+1].key.term∧u[m].key.seq = u[m+1].key.seq):=fun e=>by
     have h3:=HU.out
     rw [List.Nodup,List.pairwise_iff_getElem] at h3
     refine h3 m (m+1) (by simpa using hlm) (by simpa using hlt) (by omega) ?_
     simp only [List.getElem_map]
     cases hx:u[m].key; cases hy:u[m+1].key
     rw [hx,hy] at e
     simp only at e
     rw [e.1,e.2]
    have hqk:=neKey _ _ _ _ hne
    obtain ⟨b2,off2,hA2,hb2,hc2⟩:=hx.at_ hlm
    rw [hA1] at hA2
    injection hA2 with hA2
    injection hA2 with hA2 hA3
    subst hA2 hA3 hA1
    have d0:=hc2 0 _ rfl
    have d1:=hc2 1 _ rfl
    have d2:=hc2 2 _ rfl
    have d3:=hc2 3 _ rfl
    have d4:=hc2 4 _ rfl
    have d5:=hc2 5 _ rfl
    have d6:=hc2 6 _ rfl
    simp only [Nat.add_zero] at d0
    have hmi:(m:Int) < (u.length:Int):=by omega
    have hp:decide ((0:Int) < (m:Int)+1) = true:=by rw [decide_eq_true_eq]; omega
    have hwr:IntKind.i64.wrap ((m:Int)+1 - 1) = (m:Int):=by rw [IntKind.wrap_i64]; omega
    clear hc1 hc2 hne hx hown
    generalize u[m+1] = ev at c0 c1 c2 c3 c4 c5 c6 HT hqk hownA hbrA
    obtain ⟨⟨kt,ks⟩,em,ti,ki,tt,ts⟩:=ev
    simp only at c0 c1 c2 c3 c4 c5 c6 hqk HT hownA hbrA
    by_cases he:emp = em
    ·
     subst he
     rw [if_pos (by simp)] at HT
     go_wp2
     go_quiet (fail)
     go_wp2_with (at_builtin; go_loud (refine wpList_append_one _ _ 42 (⟨⟨kt,ks⟩,emp,ti,ki,⟨tt,ts⟩⟩ : EvT) _ 56 _ infoEv Tryz.underlying42 (hownA.out.drewN _) encEv_len (by omega) rfl (encEv_one _) (Nat.lt_of_le_of_lt hfl (by omega)) (by omega) (by simp; omega) (by rfl) (by rfl) (by rfl) (by rfl) (by simp) (by rfl) ?_); intro v2 w6 hown6 hg6)
     go_roundw
     case rel=>exact ⟨m+2,by omega,by go_num,by rw [HT.out]; exact hown6,bel_only (below_drewN hbrA.out _) hg6 (fun g hg=>by have:=(hownA.out.block_lt hg).1; omega)⟩
     case measure=>simp [intOf]; omega
    ·
     rw [if_neg (by simpa using fun e=>he e.symm)] at HT
     go_wp2
     go_quiet (fail)
     go_wp2
     go_roundw
     case rel=>exact ⟨m+2,by omega,by go_num,by rw [HT.out,List.append_nil]; exact hownA.out.drewN _,below_drewN hbrA.out _⟩
     case measure=>simp [intOf]; omega
  ·
   obtain rfl:k = u.length:=by omega
   rw [List.take_length,← HC.out] at hown
   go_wp2
   go_ret
   exact ⟨_,rfl,hown.weaken hs1,bel_adv hb1 hbr⟩
end
end Go.Proofs.YtopekilofdadnaaGreatDoor
namespace Go.Proofs.YtopekilofdadnaaGreatDoor
open Go.RowKit Go.Sort Go.Shelf
def cancF (l:List EvT) (x:KeyT) : Option Value:=if cancB l x then some (.bool true) else none
def corrF (l:List EvT) (x:KeyT) : Option Value:=(corrT l x).map (Value.int .i64)
theorem cancB_take (l:List EvT) (k:Nat) (h:k < l.length) (x:KeyT) : cancB (l.take (k+1)) x = (cancB (l.take k) x || decide (l[k].kind = 5∧l[k].target = x)):=by
 rw [cancB,List.take_succ_eq_append_getElem h,List.any_append]
 simp [cancB]
theorem corrT_take (l:List EvT) (k:Nat) (h:k < l.length) (x:KeyT) : corrT (l.take (k+1)) x = if l[k].kind = 6∧l[k].target = x then some l[k].time else corrT (l.take k) x:=by
 rw [corrT,List.take_succ_eq_append_getElem h,List.foldl_append]
 rfl
def stampsP (L l : List EvT) : List StampT:=(l.filter fun e=>!(decide (e.kind = 5) || decide (e.kind = 6) || cancB L e.key)).map fun e=>⟨(corrT L e.key).getD e.time,e.kind,e.key⟩
theorem stampsP_take (L l : List EvT) (k:Nat) (h:k < l.length) : stampsP L (l.take (k+1)) = stampsP L (l.take k)++if l[k].kind = 5 ∨ l[k].kind = 6 ∨ cancB L l[k].key = true then [] else [⟨(corrT L l[k].key).getD l[k].time,l[k].kind,l[k].key⟩]:=by
 rw [stampsP,filter_take _ l k h,List.map_append]
 congr 1
 by_cases h5:l[k].kind = 5
 ·
  simp [h5]
 ·
  by_cases h6:l[k].kind = 6
  ·
   simp [h6]
  ·
   by_cases hc:cancB L l[k].key = true
   ·
    simp [h5,h6,hc]
   ·
    simp [h5,h6,hc]
theorem stampsP_len (L l : List EvT) : (stampsP L l).length≤l.length:=by
 rw [stampsP,List.length_map]
 exact List.length_filter_le _ _
theorem goodK {a b : Int} (h1:0≤a∧a≤65535) (h2:0≤b∧b≤2147483647) : keyK.good ⟨a,b⟩:=by
 have h:(Lit.int .i64 a).wf = true∧(Lit.int .i64 b).wf = true:=⟨wf64 (by omega) (by omega),wf64 (by omega) (by omega)⟩
 exact h
def EffPost (l:List EvT) (emp:Int) (w:World) (e:Ending) (w' : World) : Prop :=
 ∃ A c,e = .returned (.tuple #[.slice A (effN l emp).length c,.int .i64 0])∧SliceOf encSt 4 w' w'.heap.size A (effN l emp)∧Below w.heap.size w w'
section
set_option maxHeartbeats 4000000
set_option maxRecDepth 100000
theorem effectiveI (A:Option Addr) (c:Nat) (l:List EvT) (emp:Int) (w:World) (hS:SliceOf encEv 7 w w.heap.size A l) (hl:EvsOk l) : Calls Tryz.prog 19 #[.slice A l.length c,.int .i64 emp] w (EffPost l emp w):=by
 have hlen:=hl.len
 have HL:=Lib.hid hl
 clear hl
 have hmm:=@run_makeMap Tryz.prog
 go_enter Tryz.func19,Tryz.ntmps19
 go_wp2_with fail
 refine (checkI A c l _ hS HL.out).mono ?_
 rintro e w1 ⟨rfl,hb1⟩
 have hS1:=hS.adv hb1
 go_wp2_with fail
 refine (countI A c l emp _ hS1 HL.out).mono ?_
 rintro e w2 ⟨v,rfl,hown,hb2⟩
 obtain ⟨A1,c1,hv,hS2,_,_⟩:=hown.form encEv_len
 subst hv
 have hb12:=bel_adv hb1 hb2
 have hLl:=cntF_len (emp:=emp) HL.out
 have HOK:Hid (∀ x ∈ cntF emp l,EvOk x):=fun x hx=>HL.out.ok x (cntF_mem hx)
 have HNE:=Lib.hid (stamps_ne _ (cntF_keys emp l))
 have HEF:Hid (effN l emp = uniC stC (stampsP (cntF emp l) (cntF emp l))):=rfl
 have HNE:Hid ((stampsP (cntF emp l) (cntF emp l)).Pairwise (fun a b=>stC a b ≠ 0)):=HNE
 clear hb1 hS1 hb2 hown
 generalize cntF emp l = L at hS2 hLl HOK HNE HEF ⊢
 go_wp2
 have hm1:=(MapAt.made keyK w2).alloc (.map #[] 0)
 have hm2:=MapAt.made keyK (w2.alloc (.map #[] 0))
 have hbl0:=bel_alloc (below_new w2 (.map #[] 0)) (.map #[] 0)
 rw [show (w2.alloc (.map #[] 0)).heap.size = w2.heap.size+1 from World.size_alloc _ _] at hm2
 go_loopw [30] (fun i wr=>∃ k:Nat,k≤L.length∧i = .int .i64 k∧MapAt keyK wr w2.heap.size k (cancF (L.take k))∧MapAt keyK wr (w2.heap.size+1) k (corrF (L.take k))∧Below w2.heap.size w2 wr) (fun i _=>L.length - (intOf i).toNat)
 case atStart=>exact ⟨0,by omega,rfl,hm1,hm2,hbl0⟩
 case round =>
  clear hm1 hm2 hbl0
  obtain ⟨k,hk,rfl,hm1,hm2,hbr⟩:=hrel
  have hbs:=hbr.size
  by_cases hlt:k < L.length
  ·
   have HTc:=Lib.hid (cancB_take L k hlt)
   have HTr:=Lib.hid (corrT_take L k hlt)
   have hok:=HOK.out _ (List.getElem_mem hlt)
   have htg:=hok.targ
   have hti:=hok.time
   obtain ⟨b,off,rfl,hb,hc⟩:=(hS2.below hbr).at_ hlt
   have c0:=hc 0 _ rfl
   have c1:=hc 1 _ rfl
   have c2:=hc 2 _ rfl
   have c3:=hc 3 _ rfl
   have c4:=hc 4 _ rfl
   have c5:=hc 5 _ rfl
   have c6:=hc 6 _ rfl
   simp only [Nat.add_zero] at c0
   have hbw:b < wr.heap.size:=by omega
   have hki:(k:Int) < (L.length:Int):=by omega
   clear hc hok
   generalize L[k] = ev at c0 c1 c2 c3 c4 c5 c6 HTc HTr htg hti
   obtain ⟨⟨kt,ks⟩,em,ti,ki,tt,ts⟩:=ev
   simp only at c0 c1 c2 c3 c4 c5 c6 HTc HTr htg hti
   have hm1:=hm1.alloc (.cells #[.int .i64 kt,.int .i64 ks,.int .i64 em,.int .i64 ti,.int .i64 ki,.int .i64 tt,.int .i64 ts] 41)
   have hm2:=hm2.alloc (.cells #[.int .i64 kt,.int .i64 ks,.int .i64 em,.int .i64 ti,.int .i64 ki,.int .i64 tt,.int .i64 ts] 41)
   have hbrA:=Lib.hid (bel_alloc hbr (.cells #[.int .i64 kt,.int .i64 ks,.int .i64 em,.int .i64 ti,.int .i64 ki,.int .i64 tt,.int .i64 ts] 41))
   by_cases h5:ki = 5
   ·
    subst h5
    obtain ⟨g1,g2⟩:=htg (by omega)
    have hgd:keyK.good ⟨tt,ts⟩:=goodK g1 g2
    have HG:=Lib.hid hgd
    have hc1:cancF (L.take (k+1)) ⟨tt,ts⟩ = some (.bool true):=by rw [cancF,HTc.out]; simp
    have hc2:∀ y,y ≠ (⟨tt,ts⟩ : KeyT)→cancF (L.take (k+1)) y = cancF (L.take k) y:=fun y hy=>by
     rw [cancF,HTc.out,cancF,decide_eq_false (fun e=>hy e.2.symm),Bool.or_false]
    have hc3:corrF (L.take (k+1)) = corrF (L.take k):=funext fun y=>by rw [corrF,HTr.out,if_neg (by simp),corrF]
    have HC1:=Lib.hid hc1
    have HC2:=Lib.hid hc2
    have HC3:=Lib.hid hc3
    clear hc1 hc2 hc3 htg hgd g1 g2 hmm
    go_wp2_with (at_mapUpdate; refine wpList_set (E:=keyK) (f:=cancF (L.take k)) (cancF (L.take (k+1))) (by rfl) _ _ _ 124 (by rfl) Tryz.underlying124 hm1 (by unfold maxLen; omega) ⟨tt,ts⟩ HG.out (.bool true) (by rfl) (by rfl) (by rfl) HC1.out HC2.out ?_; intro w3 hm3 hg3)
    go_roundw
    case rel=>exact ⟨k+1,by omega,by go_num,hm3,by rw [HC3.out]; exact (hm2.kept hg3 (by simp)).mono (by omega),bel_only hbrA.out hg3 (fun g e=>by injection e; omega)⟩
    case measure=>simp [intOf]; omega
   ·
    have hc3:cancF (L.take (k+1)) = cancF (L.take k):=funext fun y=>by rw [cancF,HTc.out,decide_eq_false (fun e=>h5 e.1),Bool.or_false,cancF]
    have HC3:=Lib.hid hc3
    clear hc3
    by_cases h6:ki = 6
    ·
     subst h6
     obtain ⟨g1,g2⟩:=htg (by omega)
     have hgd:keyK.good ⟨tt,ts⟩:=goodK g1 g2
     have HG:=Lib.hid hgd
     have hc1:corrF (L.take (k+1)) ⟨tt,ts⟩ = some (.int .i64 ti):=by rw [corrF,HTr.out]; simp
     have hc2:∀ y,y ≠ (⟨tt,ts⟩ : KeyT)→corrF (L.take (k+1)) y = corrF (L.take k) y:=fun y hy=>by
      rw [corrF,HTr.out,if_neg (fun e=>hy e.2.symm),corrF]
     have HC1:=Lib.hid hc1
     have HC2:=Lib.hid hc2
     clear hc1 hc2 htg hgd g1 g2 hmm
     go_wp2_with (at_mapUpdate; refine wpList_set (E:=keyK) (f:=corrF (L.take k)) (corrF (L.take (k+1))) (by rfl) _ _ _ 125 (by rfl) Tryz.underlying125 hm2 (by unfold maxLen; omega) ⟨tt,ts⟩ HG.out (.int .i64 ti) (by rfl) (by rfl) (by rfl) HC1.out HC2.out ?_; intro w3 hm3 hg3)
     go_roundw
     case rel=>exact ⟨k+1,by omega,by go_num,by rw [HC3.out]; exact (hm1.kept hg3 (by simp)).mono (by omega),hm3,bel_only hbrA.out hg3 (fun g e=>by injection e; omega)⟩
     case measure=>simp [intOf]; omega
    ·
     have hc3:corrF (L.take (k+1)) = corrF (L.take k):=funext fun y=>by rw [corrF,HTr.out,if_neg (fun e=>h6 e.1),corrF]
     have HC4:=Lib.hid hc3
     clear hc3 htg hmm
     go_wp2
     go_roundw
     case rel=>exact ⟨k+1,by omega,by go_num,by rw [HC3.out]; exact hm1.mono (by omega),by rw [HC4.out]; exact hm2.mono (by omega),hbrA.out⟩
     case measure=>simp [intOf]; omega
  ·
   obtain rfl:k = L.length:=by omega
   rw [List.take_length] at hm1 hm2
   have hS3:=hS2.adv hbr
   obtain ⟨w3,rfl⟩ : ∃ w3:World,w3 = wr:=⟨_,rfl⟩
   have hb3:=bel_adv hb12 hbr
   have hbw1:w2.heap.size+1 < w3.heap.size:=hm2.lt
   clear hS2 hbr hk hlt hmm
   go_wp2
   go_loopw [12,51] (fun r i wr=>∃ k:Nat,k≤L.length∧i = .int .i64 k∧Own encSt 4 127 wr w3.heap.size r (stampsP L (L.take k))∧Below w3.heap.size w3 wr) (fun _ i _=>L.length - (intOf i).toNat)
   case atStart=>exact ⟨0,by omega,rfl,by simpa [stampsP] using Own.nil_ _ _,Below.refl _ _⟩
   case round =>
    obtain ⟨k,hk,rfl,hown,hbr⟩:=hrel
    have hbs2:=hbr.size
    have hM1:=hm1.adv hbr
    have hM2:=hm2.adv hbr
    by_cases hlt:k < L.length
    ·
     have HT:=Lib.hid (stampsP_take L L k hlt)
     have hfl:(stampsP L (L.take k)).length≤1024:=Nat.le_trans (stampsP_len _ _) (by simp; omega)
     have hok:=HOK.out _ (List.getElem_mem hlt)
     have htm:=hok.term
     have htq:=hok.seq
     obtain ⟨b,off,rfl,hb,hc⟩:=(hS3.below hbr).at_ hlt
     have c0:=hc 0 _ rfl
     have c1:=hc 1 _ rfl
     have c2:=hc 2 _ rfl
     have c3:=hc 3 _ rfl
     have c4:=hc 4 _ rfl
     have c5:=hc 5 _ rfl
     have c6:=hc 6 _ rfl
     simp only [Nat.add_zero] at c0
     have hbw:b < wr.heap.size:=by omega
     have hki:(k:Int) < (L.length:Int):=by omega
     clear hc hok
     generalize L[k] = ev at c0 c1 c2 c3 c4 c5 c6 HT htm htq
     obtain ⟨⟨kt,ks⟩,em,ti,ki,tt,ts⟩:=ev
     simp only at c0 c1 c2 c3 c4 c5 c6 HT htm htq
     have HG:Hid (keyK.good ⟨kt,ks⟩):=goodK htm htq
     have hM1:=hM1.alloc (.cells #[.int .i64 kt,.int .i64 ks,.int .i64 em,.int .i64 ti,.int .i64 ki,.int .i64 tt,.int .i64 ts] 41)
     have hM2:=hM2.alloc (.cells #[.int .i64 kt,.int .i64 ks,.int .i64 em,.int .i64 ti,.int .i64 ki,.int .i64 tt,.int .i64 ts] 41)
     have hownA:=Lib.hid (hown.alloc (.cells #[.int .i64 kt,.int .i64 ks,.int .i64 em,.int .i64 ti,.int .i64 ki,.int .i64 tt,.int .i64 ts] 41))
     have hbrA:=Lib.hid (bel_alloc hbr (.cells #[.int .i64 kt,.int .i64 ks,.int .i64 em,.int .i64 ti,.int .i64 ki,.int .i64 tt,.int .i64 ts] 41))
     clear htm htq hown
     by_cases h5:ki = 5
     ·
      subst h5
      rw [if_pos (.inl rfl),List.append_nil] at HT
      go_wp2
      go_roundw
      case rel=>exact ⟨k+1,by omega,by go_num,by rw [HT.out]; exact hownA.out,hbrA.out⟩
      case measure=>simp [intOf]; omega
     ·
      by_cases h6:ki = 6
      ·
       subst h6
       rw [if_pos (.inr (.inl rfl)),List.append_nil] at HT
       go_wp2
       go_roundw
       case rel=>exact ⟨k+1,by omega,by go_num,by rw [HT.out]; exact hownA.out,hbrA.out⟩
       case measure=>simp [intOf]; omega
      ·
       have e5:(ki == 5) = false:=by simpa using h5
       have e6:(ki == 6) = false:=by simpa using h6
       by_cases hcb:cancB L ⟨kt,ks⟩ = true
       ·
        rw [if_pos (.inr (.inr hcb)),List.append_nil] at HT
        have hcv:(cancF L ⟨kt,ks⟩).getD (.bool false) = .bool true:=by rw [cancF,if_pos hcb]; rfl
        clear hcb
        go_wp2_with (at_lookup; go_loud (refine wpList_getW (E:=keyK) (f:=cancF L) (by go_simp) _ _ 124 (by rfl) Tryz.underlying124 (.bool false) (zeroBool _) hM1 ⟨kt,ks⟩ HG.out (by rfl) (by rfl) (.bool true) hcv ?_))
        go_roundw
        case rel=>exact ⟨k+1,by omega,by go_num,by rw [HT.out]; exact hownA.out,hbrA.out⟩
        case measure=>simp [intOf]; omega
       ·
        rw [if_neg (by rintro (h | h | h); exact h5 h; exact h6 h; exact hcb h)] at HT
        have hcv:(cancF L ⟨kt,ks⟩).getD (.bool false) = .bool false:=by rw [cancF,if_neg hcb]; rfl
        have hbrB:=Lib.hid (bel_alloc hbrA.out (.cells #[.int .i64 ti,.int .i64 ki,.int .i64 kt,.int .i64 ks] 127))
        have hownB:=Lib.hid (hownA.out.alloc (.cells #[.int .i64 ti,.int .i64 ki,.int .i64 kt,.int .i64 ks] 127))
        have hM2:=hM2.alloc (.cells #[.int .i64 ti,.int .i64 ki,.int .i64 kt,.int .i64 ks] 127)
        clear hcb
        rcases hcr:corrT L ⟨kt,ks⟩ with _ | T
        ·
         rw [hcr] at HT
         have hv1:(corrF L ⟨kt,ks⟩).getD (.int .i64 0) = .int .i64 0:=by rw [corrF,hcr]; rfl
         have hv2:(corrF L ⟨kt,ks⟩).isSome = false:=by rw [corrF,hcr]; rfl
         clear hcr
         go_wp2_with (first
          | (at_lookup; refine wpList_getW (E:=keyK) (f:=cancF L) (by go_simp) _ _ 124 (by rfl) Tryz.underlying124 (.bool false) (zeroBool _) hM1 ⟨kt,ks⟩ HG.out (by rfl) (by rfl) (.bool false) hcv ?_)
          | (at_lookup; refine wpList_ask (E:=keyK) (f:=corrF L) (by rfl) _ _ 125 (by rfl) Tryz.underlying125 (.int .i64 0) (zeroInt _) hM2 ⟨kt,ks⟩ HG.out (by rfl) (by rfl) (.int .i64 0) false hv1 hv2 ?_)
          | (at_builtin; (refine wpList_append_one _ _ 72 (⟨ti,ki,⟨kt,ks⟩⟩ : StampT) _ 32 _ infoSt Tryz.underlying72 hownB.out encSt_len (by omega) rfl (encSt_one _) (by omega) (by omega) (by simp; omega) (by rfl) (by rfl) (by rfl) (by rfl) (by simp) (by rfl) ?_); intro v2 w6 hown6 hg6))
         go_roundw
         case rel=>exact ⟨k+1,by omega,by go_num,by rw [HT.out]; exact hown6,bel_only hbrB.out hg6 (fun g hg=>by have:=(hownB.out.block_lt hg).1; omega)⟩
         case measure=>simp [intOf]; omega
        ·
         rw [hcr] at HT
         have hv1:(corrF L ⟨kt,ks⟩).getD (.int .i64 0) = .int .i64 T:=by rw [corrF,hcr]; rfl
         have hv2:(corrF L ⟨kt,ks⟩).isSome = true:=by rw [corrF,hcr]; rfl
         have hbrC:=Lib.hid (bel_alloc hbrA.out (.cells #[.int .i64 T,.int .i64 ki,.int .i64 kt,.int .i64 ks] 127))
         have hownC:=Lib.hid (hownA.out.alloc (.cells #[.int .i64 T,.int .i64 ki,.int .i64 kt,.int .i64 ks] 127))
         clear hcr
         go_wp2_with (first
          | (at_lookup; refine wpList_getW (E:=keyK) (f:=cancF L) (by go_simp) _ _ 124 (by rfl) Tryz.underlying124 (.bool false) (zeroBool _) hM1 ⟨kt,ks⟩ HG.out (by rfl) (by rfl) (.bool false) hcv ?_)
          | (at_lookup; refine wpList_ask (E:=keyK) (f:=corrF L) (by rfl) _ _ 125 (by rfl) Tryz.underlying125 (.int .i64 0) (zeroInt _) hM2 ⟨kt,ks⟩ HG.out (by rfl) (by rfl) (.int .i64 T) true hv1 hv2 ?_)
          | (at_builtin; (refine wpList_append_one _ _ 72 (⟨T,ki,⟨kt,ks⟩⟩ : StampT) _ 32 _ infoSt Tryz.underlying72 hownC.out encSt_len (by omega) rfl (encSt_one _) (by omega) (by omega) (by simp; omega) (by rfl) (by rfl) (by rfl) (by rfl) (by simp) (by rfl) ?_); intro v2 w6 hown6 hg6))
         go_roundw
         case rel=>exact ⟨k+1,by omega,by go_num,by rw [HT.out]; exact hown6,bel_only hbrC.out hg6 (fun g hg=>by have:=(hownC.out.block_lt hg).1; omega)⟩
         case measure=>simp [intOf]; omega
    ·
     obtain rfl:k = L.length:=by omega
     rw [List.take_length] at hown
     have hsl:(stampsP L L).length < 4611686018427387904:=Nat.lt_of_le_of_lt (stampsP_len _ _) (by omega)
     obtain ⟨A2,c2,hv⟩:=hown.slice encSt_len
     subst hv
     have HOWN:=Lib.hid hown
     have HSL:=Lib.hid hsl
     have hbf:=bel_adv hb3 hbr
     clear hown hsl hm1 hm2 hM1 hM2
     go_wp2_with fail
     refine (sortStC A2 c2 _ _ _ HOWN.out HSL.out).mono ?_
     rintro e w4 ⟨rfl,ys,hp,hs,hS4,hg4⟩
     have hys:=perm_uni stC_tot hp hs HNE.out
     have hyl:=hp.length_eq
     rw [← hyl]
     rw [← hys] at HEF
     have HS4:=Lib.hid hS4
     have hb4:=bel_only hbf hg4 (fun g hg=>by have:=(HOWN.out.block_lt hg).1; have:=hb3.size; omega)
     clear hys hyl hp hs hS4 hg4
     go_wp2
     go_ret2
     refine ⟨A2,c2,?_,by rw [HEF.out]; exact HS4.out,hb4⟩
     rw [HEF.out]
     rfl
end
end Go.Proofs.YtopekilofdadnaaGreatDoor
