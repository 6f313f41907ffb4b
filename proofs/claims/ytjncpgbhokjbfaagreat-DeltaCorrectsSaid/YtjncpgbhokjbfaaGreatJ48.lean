/- Joined texts: Compare Compare2 DeltaN. Conditions: as stated. -/
import Derived.Test.YtjncpgbhokjbfaaGreatJ05
import Derived.Test.YtjncpgbhokjbfaaGreatJ47
namespace Go.Proofs.YtjncpgbhokjbfaaGreat
open Go.RowKit Go.Sort Go.Shelf Go.Maps Go.WideMaps Go.WideElems Go.ChangeMaps
theorem mErr_len {l:List LineT} (h:mErr l = 0) : l.length≤65536:=by
 rcases Nat.lt_or_ge 65536 l.length with h1 | h1
 ·
  rw [mErr,if_pos h1] at h; cases h
 ·
  exact h1
theorem mErr_form {l:List LineT} (h:mErr l = 0) : ∀ x ∈ l,formB x = true:=by
 have h2:l.any (fun x=>!formB x) = false:=by
  cases hh:l.any (fun x=>!formB x)
  ·
   rfl
  ·
   rw [mErr,if_neg (by have:=mErr_len h; omega),hh,if_pos rfl] at h; cases h
 intro x hx
 rw [List.any_eq_false] at h2
 simpa using h2 x hx
theorem mErr_over {l:List LineT} (h:mErr l = 0) : anyOver (RL.sums l) = false:=by
 have h1:=mErr_len h
 have h2:l.any (fun x=>!formB x) = false:=by
  rw [List.any_eq_false]; intro x hx; simp [mErr_form h x hx]
 rw [mErr_cases l h1 h2] at h
 cases hh:anyOver (RL.sums l)
 ·
  rfl
 ·
  rw [hh,if_pos rfl] at h; cases h
theorem mR_len (l:List LineT) : (mR l).length≤65536:=by
 rw [mR]; split
 ·
  rename_i h
  have h1:=mErr_len h
  have h2:=List.length_filter_le RL.nz (RL.sums l)
  have h3:=Rec.sums_length (R:=RL) l
  omega
 ·
  simp
theorem mR_sorted (l:List LineT) : RL.Sorted (mR l):=by
 rw [mR]; split
 ·
  exact (Rec.sums_sorted RL_law l).filter _
 ·
  exact List.Pairwise.nil
theorem mR_key {l:List LineT} {x:LineT} (hx:x ∈ mR l) : mErr l = 0∧∃ y ∈ l,RL.key y = RL.key x:=by
 rw [mR] at hx
 split at hx
 ·
  rename_i h; exact ⟨h,Rec.sums_keys RL_law (List.mem_filter.1 hx).1⟩
 ·
  cases hx
theorem mR_amt {l:List LineT} {x:LineT} (hx:x ∈ mR l) : maxN x.amount = true:=by
 obtain ⟨h,_⟩:=mR_key hx
 rw [mR,if_pos h] at hx
 have h2:=mErr_over h
 rw [anyOver,List.any_eq_false] at h2
 simpa using h2 x (List.mem_filter.1 hx).1
theorem mR_form {l:List LineT} {x:LineT} (hx:x ∈ mR l) : formB x = true:=by
 obtain ⟨h,y,hy,e⟩:=mR_key hx
 have h1:=mErr_form h y hy
 injection e with e1 e2
 have e3:y.code = x.code:=ba_ext e2
 have h2:=mR_amt hx
 simp only [formB,codeB,e1,e3,Bool.and_eq_true,decide_eq_true_eq] at h1 ⊢
 exact ⟨⟨⟨h1.1.1.1,h1.1.1.2⟩,h2⟩,h1.2⟩
theorem mR_size {l:List LineT} (hz : ∀ x ∈ l,x.code.size≤maxLen) : ∀ x ∈ mR l,x.code.size≤maxLen:=fun x hx=>by
 obtain ⟨_,y,hy,e⟩:=mR_key hx
 injection e with e1 e2
 rw [← ba_ext e2]; exact hz y hy
theorem cmpL_facts {x y : List LineT} (hy:RL.Sorted y) : RL.Sorted (cmpL x y)∧(∀ c,RL.tot (cmpL x y) c = RL.tot y c - RL.tot x c)∧∀ c,RL.has (cmpL x y) c = (RL.has y c || RL.has x c):=by
 obtain ⟨h1,h2,h3⟩:=Rec.foldl_facts RL_law (x.map RL.neg) y hy
 refine ⟨h1,fun c=>?_,fun c=>?_⟩
 ·
  rw [cmpL,h2,Rec.tot_neg RL_law]; omega
 ·
  rw [cmpL,h3,Rec.has_neg RL_law]
theorem cmpL_take (X Y : List LineT) (k:Nat) (h:k < X.length) : cmpL (X.take (k+1)) Y = RL.put (cmpL (X.take k) Y) (RL.neg X[k]):=by
 rw [cmpL,cmpL,List.take_succ_eq_append_getElem h,List.map_append,List.foldl_append]; rfl
theorem cErr_ok {a b : List LineT} (h0:mErr a = 0) (h1:mErr b = 0) : cErr a b = if anyOver (cmpL (mR a) (mR b)) then 4 else 0:=by
 rw [cErr,if_neg (by simp [h0]),if_neg (by simp [h1])]
theorem cR_nil {a b : List LineT} {n:Int} (h:cErr a b = n) (hn:n ≠ 0) : cR a b = []:=by rw [cR,if_neg (by rw [h]; exact hn)]
set_option maxRecDepth 100000 in
set_option maxHeartbeats 4000000 in
theorem compare34_any (A B : Option Addr) (c d : Nat) (xs ys : List LineT) (w:World) (h:SliceOf encL 3 w w.heap.size A xs) (hz : ∀ x ∈ xs,x.code.size≤maxLen) (hl:xs.length≤9223372036854775806)
  (hy:SliceOf encL 3 w w.heap.size B ys) (hzy:∀ x ∈ ys,x.code.size≤maxLen) (hly:ys.length≤9223372036854775806) :
  Calls Tryz.prog 35 #[.slice A xs.length c,.slice B ys.length d] w fun r w'=>∃ v,r = .returned (.tuple #[v,.int .i64 (cErr xs ys)])∧Own encL 3 53 w' w.heap.size v (cR xs ys)∧Below w.heap.size w w':=by
 have HZ:=Lib.hid hz; clear hz
 have HZY:=Lib.hid hzy; clear hzy
 have fail_:∀ (n:Int) (W:World),n ≠ 0→cErr xs ys = n→Below w.heap.size w W→∃ v,Ending.returned (.tuple #[.slice none 0 0,.int .i64 n]) = .returned (.tuple #[v,.int .i64 (cErr xs ys)])∧Own encL 3 53 W w.heap.size v (cR xs ys)∧Below w.heap.size w W:=by
  intro n W hn he hb
  refine ⟨.slice none 0 0,by rw [he],?_,hb⟩
  rw [cR_nil he hn]
  exact Own.nil_ _ _
 have FAIL:=Lib.hid fail_
 clear fail_
 go_enter Tryz.func35,Tryz.ntmps35
 go_wp2_with fail
 refine (merge34_any A c xs _ h HZ.out (by omega)).mono ?_
 rintro e w1 ⟨v1,rfl,hown1,hb1⟩
 by_cases h0:mErr xs = 0
 ·
  have H0:=Lib.hid h0
  rw [h0]
  clear h0
  go_wp2_with fail
  refine (merge34_any B d ys _ (hy.adv hb1) HZY.out (by omega)).mono ?_
  rintro e w2 ⟨v2,rfl,hown2,hb2⟩
  have hbel2:=bel_adv hb1 hb2
  by_cases h1:mErr ys = 0
  ·
   have H1:=Lib.hid h1
   rw [h1]
   clear h1
   have HE:=Lib.hid (cErr_ok H0.out H1.out)
   have HR:Hid (cErr xs ys = 0→cR xs ys = (cmpL (mR xs) (mR ys)).filter RL.nz):=fun h=>by rw [cR,if_pos h]
   have HXB:Hid (∀ x ∈ mR xs,-1000000000000≤x.amount∧x.amount≤1000000000000):=fun x hx=>form_amt (mR_form hx)
   have HYB:Hid (∀ x ∈ mR ys,-1000000000000≤x.amount∧x.amount≤1000000000000):=fun x hx=>form_amt (mR_form hx)
   have hXl:=mR_len xs
   have hYl:=mR_len ys
   generalize hXX:mR xs = X at *
   generalize hYY:mR ys = Y at *
   clear hXX hYY h hy
   obtain ⟨A1,c1,rfl,hS1,hB1,hlc1,hcm1⟩:=(hown1.adv hb2).form2 encL_len
   clear hown1
   go_wp2
   go_loopw [8,10] (fun v i wr=>∃ k:Nat,k≤X.length∧i = .int .i64 k∧Own encL 3 53 wr w.heap.size v (cmpL (X.take k) Y)∧RL.Bdd (1000000000000+k * 1000000000000) (cmpL (X.take k) Y)∧(cmpL (X.take k) Y).length≤Y.length+k∧Below w2.heap.size w2 wr) (fun _ i _=>X.length - (intOf i).toNat)
   case atStart=>exact ⟨0,by omega,rfl,hown2.weaken (by have:=hb1.size; omega),(fun x hx=>by have h2:=HYB.out x hx; have h3:RL.amt x = x.amount:=rfl; omega),by simp [cmpL],Below.refl _ _⟩
   case round =>
    clear hown2
    obtain ⟨k,hk,rfl,hown,hbd,hlk,hbel⟩:=hrel
    have hbs:=hbel.size
    by_cases hlt:k < X.length
    ·
     obtain ⟨A5,c5,rfl,hS5,hB5,hlc5,hcm5⟩:=hown.form2 encL_len
     obtain ⟨b,off,rfl,hb,hc⟩:=(hS1.below hbel).at_ hlt
     have c0:=hc 0 _ rfl
     have c1:=hc 1 _ rfl
     have c2:=hc 2 _ rfl
     simp only [Nat.add_zero] at c0
     clear hc
     have hxk:=HXB.out _ (List.getElem_mem hlt)
     obtain ⟨hxk1,hxk2⟩:=hxk
     have hi1:(k:Int) < (X.length:Int):=by omega
     have HBD:=Lib.hid hbd
     go_wp2
     go_still_tail 18,(by kernel_rfl)
     change wpList _ _ _ _ _ wr.drew
     have hS5':SliceOf encL 3 wr.drew wr.drew.heap.size A5 (cmpL (X.take k) Y):=hS5
     go_wp2_with fail
     refine (putL_any A5 c5 (cmpL (X.take k) Y) (RL.neg X[k]) _ hS5' hlc5 hcm5 (by omega) (fun x hx=>by have h1:=HBD.out x hx; have h2:RL.amt x = x.amount:=rfl; omega) (by show -1000000000000000≤-X[k].amount; omega) (by show -X[k].amount≤1000000000000000; omega)).mono ?_
     rintro e w3 ⟨v3,rfl,hown3,hb3⟩
     have hb3':Below wr.heap.size wr w3:=⟨hb3.os,hb3.tape,hb3.output,hb3.size,hb3.block⟩
     have hbel3:=bel_adv hbel hb3'
     have hown3':Own encL 3 53 w3 w.heap.size v3 (cmpL (X.take (k+1)) Y):=by
      rw [cmpL_take X Y k hlt]; exact hown3.weaken (by show w.heap.size≤wr.heap.size; have:=hbel2.size; omega)
     have hbd3:RL.Bdd (1000000000000+(k+1:Nat) * 1000000000000) (cmpL (X.take (k+1)) Y):=by
      rw [cmpL_take X Y k hlt]
      have:=Rec.Bdd.put RL_law HBD.out (C:=1000000000000) (e:=RL.neg X[k]) (by omega) (by omega) (by show -1000000000000≤-X[k].amount; omega) (by show -X[k].amount≤1000000000000; omega)
      intro x hx
      have:=this x hx
      omega
     have hln3:(cmpL (X.take (k+1)) Y).length≤Y.length+(k+1):=by
      rw [cmpL_take X Y k hlt]
      have:=Rec.put_length (R:=RL) (cmpL (X.take k) Y) (RL.neg X[k])
      omega
     go_wp2
     go_roundw
     case rel =>
      have hfin:∃ k':Nat,k'≤X.length∧Value.int .i64 ((k:Int)+1) = .int .i64 k'∧Own encL 3 53 w3 w.heap.size v3 (cmpL (X.take k') Y)∧RL.Bdd (1000000000000+k' * 1000000000000) (cmpL (X.take k') Y)∧(cmpL (X.take k') Y).length≤Y.length+k'∧Below w2.heap.size w2 w3:=⟨k+1,by omega,by go_num,hown3',hbd3,hln3,hbel3⟩
      first | exact hfin | ((repeat apply Exists.intro); exact ⟨hfin,rfl⟩)
     case measure=>simp [intOf]; omega
    ·
     have ek:X.take k = X:=List.take_of_length_le (by omega)
     rw [ek] at hown hbd hlk
     obtain ⟨A5,c5,rfl,hS5,hB5,hlc5,hcm5⟩:=hown.form2 encL_len
     have hbelw:=bel_adv hbel2 hbel
     go_wp2_with fail
     refine (trim_any A5 c5 (cmpL X Y) _ hS5 (by omega)).mono ?_
     rintro e w3 ⟨v3,rfl,hown3,hb3⟩
     have hbel3:=bel_adv hbelw hb3
     rcases hov:anyOver (cmpL X Y) with _ | _
     ·
      have HP:Hid (cErr xs ys = 0):=by rw [Hid,HE.out,hov]; rfl
      have HR2:Hid (cR xs ys = trimR (cmpL X Y)):=by rw [Hid,HR.out HP.out,trimR,hov]; rfl
      go_wp2
      go_ret2
      refine ⟨_,by rw [HP.out]; rfl,?_,hbel3⟩
      rw [HR2.out]
      exact hown3.weaken hbelw.size
     ·
      have HP:Hid (cErr xs ys = 4):=by rw [Hid,HE.out,hov]; rfl
      go_wp2
      go_ret2
      exact FAIL.out 4 _ (by omega) HP.out hbel3
  ·
   have h1':(mErr ys != 0) = true:=by simpa using h1
   have HE:Hid (cErr xs ys = mErr ys):=by rw [Hid,cErr,if_neg (by simp [H0.out]),if_pos h1]
   have H1:=Lib.hid h1
   clear h1
   go_wp2
   go_ret2
   exact FAIL.out _ _ H1.out HE.out hbel2
 ·
  have h0':(mErr xs != 0) = true:=by simpa using h0
  have HE:Hid (cErr xs ys = mErr xs):=by rw [Hid,cErr,if_pos h0]
  have H0:=Lib.hid h0
  clear h0
  go_wp2
  go_ret2
  exact FAIL.out _ _ H0.out HE.out hb1
end Go.Proofs.YtjncpgbhokjbfaaGreat
namespace Go.Proofs.YtjncpgbhokjbfaaGreat
open Go.RowKit Go.Sort Go.Shelf Go.Maps Go.WideMaps Go.WideElems Go.ChangeMaps
set_option maxRecDepth 100000 in
set_option maxHeartbeats 4000000 in
theorem compareP_any (A B : Option Addr) (c d : Nat) (xs ys : List LineT) (w:World) (h:SliceOf encL 3 w w.heap.size A xs) (hz : ∀ x ∈ xs,x.code.size≤maxLen) (hl:xs.length≤9223372036854775806)
  (hy:SliceOf encL 3 w w.heap.size B ys) (hzy:∀ x ∈ ys,x.code.size≤maxLen) (hly:ys.length≤9223372036854775806) :
  Calls Tryz.prog 28 #[.slice A xs.length c,.slice B ys.length d] w (LinesPost (cR xs ys) (cErr xs ys) w):=by
 have HZ:=Lib.hid hz; clear hz
 have HZY:=Lib.hid hzy; clear hzy
 have hmm:=@run_makeMap Tryz.prog
 go_enter Tryz.func28,Tryz.ntmps28
 go_wp2_with fail
 refine (mergeP_any A c xs _ h HZ.out (by omega)).mono ?_
 rintro e w1 ⟨A1,c1,rfl,hS1,hc1,hcm1,hb1⟩
 by_cases h0:mErr xs = 0
 ·
  have H0:=Lib.hid h0
  rw [h0]
  clear h0
  go_wp2_with fail
  refine (mergeP_any B d ys _ (hy.adv hb1) HZY.out (by omega)).mono ?_
  rintro e w2 ⟨A2,c2,rfl,hS2,hc2,hcm2,hb2⟩
  have hbel2:=bel_adv hb1 hb2
  by_cases h1:mErr ys = 0
  ·
   have H1:=Lib.hid h1
   rw [h1]
   clear h1
   have HE:=Lib.hid (cErr_ok H0.out H1.out)
   have HR:Hid (cErr xs ys = 0→cR xs ys = (cmpL (mR xs) (mR ys)).filter RL.nz):=fun h=>by rw [cR,if_pos h]
   have HXF:Hid (∀ x ∈ mR xs,formB x = true):=fun x hx=>mR_form hx
   have HYF:Hid (∀ x ∈ mR ys,formB x = true):=fun x hx=>mR_form hx
   have HZX:=Lib.hid (mR_size HZ.out)
   have HZ2:=Lib.hid (mR_size HZY.out)
   have HSL:=Lib.hid (cmpL_facts (x:=mR xs) (mR_sorted ys))
   have hXl:=mR_len xs
   have hYl:=mR_len ys
   have hX:=hS1.adv hb2
   generalize hXX:mR xs = X at *
   generalize hYY:mR ys = Y at *
   clear hXX hYY hS1 h hy hb1 hb2
   go_wp2
   have hmap0:(w2.alloc (.map #[] 0)).ownsMap Tryz.prog 134 (plainElem (H:=Unit) Tryz.prog 3) w2.heap.size 0 (.map []):=World.ownsMap_made _ _ _ _
   have hbel0:Below w2.heap.size w2 (w2.alloc (.map #[] 0)):=below_new _ _
   have hD0:MapG litT goodT (.map []) (RL.has (X.take 0)) (fun c=>- RL.tot (X.take 0) c):=by
    have e2:(fun c=>- RL.tot (X.take 0) c) = fun _=>0:=by funext c; simp [Rec.tot]
    rw [e2]; exact MapG.empty
   go_loopw [33] (fun i wr=>∃ (k:Nat) (D:DataW Unit),k≤X.length∧i = .int .i64 k∧wr.ownsMap Tryz.prog 134 (plainElem (H:=Unit) Tryz.prog 3) w2.heap.size k D∧MapG litT goodT D (RL.has (X.take k)) (fun c=>- RL.tot (X.take k) c)∧Below w2.heap.size w2 wr) (fun i _=>X.length - (intOf i).toNat)
   case atStart=>exact ⟨0,.map [],by omega,rfl,hmap0,hD0,hbel0⟩
   case round =>
    clear hmap0 hbel0 hD0
    obtain ⟨k,D,hk,rfl,hown,hD,hbel⟩:=hrel
    have hbs:=hbel.size
    have hml:=hown.lt
    by_cases hlt:k < X.length
    ·
     obtain ⟨b,off,rfl,hb,hc⟩:=(hX.below hbel).at_ hlt
     have c0:=hc 0 _ rfl
     have c1:=hc 1 _ rfl
     have c2:=hc 2 _ rfl
     simp only [Nat.add_zero] at c0
     clear hc
     have hzk:=HZX.out _ (List.getElem_mem hlt)
     have hf:=HXF.out _ (List.getElem_mem hlt)
     obtain ⟨ha1,ha2⟩:=form_amt hf
     have hgd:=good_of hzk hf
     have hB1:=Blk.new wr 53 #[.int .i64 X[k].kind,.string X[k].code,.int .i64 X[k].amount]
     have hown1:=hown.alloc (Obj.cells #[.int .i64 X[k].kind,.string X[k].code,.int .i64 X[k].amount] 53)
     have hbel1:=bel_alloc hbel (Obj.cells #[.int .i64 X[k].kind,.string X[k].code,.int .i64 X[k].amount] 53)
     have hTb:=Rec.tot_bd (R:=RL) (X.take k) (RL.key X[k]) 1000000000000 (by omega) (fun x hx=>form_amt (HXF.out x (List.mem_of_mem_take hx)))
     have hTl:(X.take k).length≤65536:=by simp; omega
     have hT1 : -200000000000000000≤- RL.tot (X.take k) (RL.key X[k]):=by omega
     have hT2 : - RL.tot (X.take k) (RL.key X[k])≤200000000000000000:=by omega
     have hkey:keyOf Tryz.prog 134 (.agg #[.int .i64 X[k].kind,.string X[k].code]) = some (litT (RL.key X[k])):=keyT _ _ hgd
     obtain ⟨c,st,w3,hlk,hat,hwc,hme,hlk3,hg3,hst⟩:=entry_own lawT Tryz.underlying132 Tryz.underlying3 zeroI hown1.drew (by unfold maxLen; omega) hD.isMap hkey
     obtain rfl:c = - RL.tot (X.take k) (RL.key X[k]):=by
      have h1:=hD.at_ _ hgd
      rw [hat] at h1
      injection h1 with h1
      injection h1
     obtain ⟨w4,hes,hown4,hg4⟩:=hst (- RL.tot (X.take k) (RL.key X[k]) - X[k].amount) (wf64 (by omega) (by omega))
     have hD1:=hD.put_ (K':=RL.has (X.take (k+1))) (T':=fun c=>- RL.tot (X.take (k+1)) c) keyGT (RL.key X[k]) hgd (- RL.tot (X.take k) (RL.key X[k]) - X[k].amount) (Rec.has_take X k hlt) (fun c=>by
      rw [Rec.tot_take X k hlt]
      have e0:RL.amt X[k] = X[k].amount:=rfl
      split
      ·
       rename_i e; rw [← e]; omega
      ·
       omega)
     have HD1:=Lib.hid hD1
     have hB3:Blk w3 wr.heap.size 53 #[.int .i64 X[k].kind,.string X[k].code,.int .i64 X[k].amount]:=Blk.grown (w:=(wr.alloc (Obj.cells #[.int .i64 X[k].kind,.string X[k].code,.int .i64 X[k].amount] 53)).drew) hB1 hg3 (by intro e; injection e; omega)
     have hbel4:Below w2.heap.size w2 w4:=bel_only (below_drewN hbel1 1) hg4 (fun g e=>by injection e; omega)
     have d0:=hB3.cell 0
     have d1:=hB3.cell 1
     have d2:=hB3.cell 2
     simp only [nqg,nqh,nqi] at d0 d1 d2
     have hl3:=hB3.lt
     generalize - RL.tot (X.take k) (RL.key X[k]) = t0 at *
     clear hD hD1 hTb hTl hat hwc hst hkey hgd hB1 hB3 hf hown1
     go_wp2
     go_big_region
     go_wp2
     go_roundw
     case rel=>exact ⟨k+1,_,by omega,by go_num,hown4,HD1.out,hbel4⟩
     case measure=>simp [intOf]; omega
    ·
     have ek:X.take k = X:=List.take_of_length_le (by omega)
     rw [ek] at hD
     have hkX:k≤65536:=by omega
     obtain ⟨wo,rfl⟩ : ∃ wo:World,wo = wr:=⟨_,rfl⟩
     have hD0:MapG litT goodT D (fun c=>RL.has X c || RL.has (Y.take 0) c) (fun c=>RL.tot (Y.take 0) c - RL.tot X c):=by
      have e1:(fun c=>RL.has X c || RL.has (Y.take 0) c) = RL.has X:=by funext c; simp [Rec.has]
      have e2:(fun c=>RL.tot (Y.take 0) c - RL.tot X c) = fun c=>- RL.tot X c:=by funext c; simp [Rec.tot]
      rw [e1,e2]; exact hD
     clear hD ek
     go_wp2
     go_loopw [52] (fun i wr=>∃ (m:Nat) (D:DataW Unit),m≤Y.length∧i = .int .i64 m∧wr.ownsMap Tryz.prog 134 (plainElem (H:=Unit) Tryz.prog 3) w2.heap.size (k+m) D∧MapG litT goodT D (fun c=>RL.has X c || RL.has (Y.take m) c) (fun c=>RL.tot (Y.take m) c - RL.tot X c)∧Below w2.heap.size w2 wr) (fun i _=>Y.length - (intOf i).toNat)
     case atStart=>exact ⟨0,D,by omega,rfl,hown,hD0,hbel⟩
     case round =>
      clear hown hD0 hbel hbs hml
      obtain ⟨m,D,hm,rfl,hown,hD,hbel⟩:=hrel
      have hbs:=hbel.size
      have hml:=hown.lt
      by_cases hltm:m < Y.length
      ·
       obtain ⟨b,off,rfl,hb,hc⟩:=(hS2.below hbel).at_ hltm
       have c0:=hc 0 _ rfl
       have c1:=hc 1 _ rfl
       have c2:=hc 2 _ rfl
       simp only [Nat.add_zero] at c0
       clear hc
       have hTx:=Rec.tot_bd (R:=RL) X (RL.key Y[m]) 1000000000000 (by omega) (fun x hx=>form_amt (HXF.out x hx))
       have hzk:=HZ2.out _ (List.getElem_mem hltm)
       have hf:=HYF.out _ (List.getElem_mem hltm)
       obtain ⟨ha1,ha2⟩:=form_amt hf
       have hgd:=good_of hzk hf
       have hB1:=Blk.new wr 53 #[.int .i64 Y[m].kind,.string Y[m].code,.int .i64 Y[m].amount]
       have hown1:=hown.alloc (Obj.cells #[.int .i64 Y[m].kind,.string Y[m].code,.int .i64 Y[m].amount] 53)
       have hbel1:=bel_alloc hbel (Obj.cells #[.int .i64 Y[m].kind,.string Y[m].code,.int .i64 Y[m].amount] 53)
       have hTb:=Rec.tot_bd (R:=RL) (Y.take m) (RL.key Y[m]) 1000000000000 (by omega) (fun x hx=>form_amt (HYF.out x (List.mem_of_mem_take hx)))
       have hTl:(Y.take m).length≤65536:=by simp; omega
       have hT1 : -200000000000000000≤RL.tot (Y.take m) (RL.key Y[m]) - RL.tot X (RL.key Y[m]):=by omega
       have hT2:RL.tot (Y.take m) (RL.key Y[m]) - RL.tot X (RL.key Y[m])≤200000000000000000:=by omega
       have hkey:keyOf Tryz.prog 134 (.agg #[.int .i64 Y[m].kind,.string Y[m].code]) = some (litT (RL.key Y[m])):=keyT _ _ hgd
       obtain ⟨c,st,w3,hlk,hat,hwc,hme,hlk3,hg3,hst⟩:=entry_own lawT Tryz.underlying132 Tryz.underlying3 zeroI hown1.drew (by unfold maxLen; omega) hD.isMap hkey
       obtain rfl:c = RL.tot (Y.take m) (RL.key Y[m]) - RL.tot X (RL.key Y[m]):=by
        have h1:=hD.at_ _ hgd
        rw [hat] at h1
        injection h1 with h1
        injection h1
       obtain ⟨w4,hes,hown4,hg4⟩:=hst (RL.tot (Y.take m) (RL.key Y[m]) - RL.tot X (RL.key Y[m])+Y[m].amount) (wf64 (by omega) (by omega))
       have hD1:=hD.put_ (K':=fun c=>RL.has X c || RL.has (Y.take (m+1)) c) (T':=fun c=>RL.tot (Y.take (m+1)) c - RL.tot X c) keyGT (RL.key Y[m]) hgd (RL.tot (Y.take m) (RL.key Y[m]) - RL.tot X (RL.key Y[m])+Y[m].amount) (fun c=>by rw [Rec.has_take Y m hltm,Bool.or_assoc]) (fun c=>by
        rw [Rec.tot_take Y m hltm]
        have e0:RL.amt Y[m] = Y[m].amount:=rfl
        split
        ·
         rename_i e; rw [← e]; omega
        ·
         omega)
       have HD1:=Lib.hid hD1
       have hB3:Blk w3 wr.heap.size 53 #[.int .i64 Y[m].kind,.string Y[m].code,.int .i64 Y[m].amount]:=Blk.grown (w:=(wr.alloc (Obj.cells #[.int .i64 Y[m].kind,.string Y[m].code,.int .i64 Y[m].amount] 53)).drew) hB1 hg3 (by intro e; injection e; omega)
       have hbel4:Below w2.heap.size w2 w4:=bel_only (below_drewN hbel1 1) hg4 (fun g e=>by injection e; omega)
       have d0:=hB3.cell 0
       have d1:=hB3.cell 1
       have d2:=hB3.cell 2
       simp only [nqg,nqh,nqi] at d0 d1 d2
       have hl3:=hB3.lt
       generalize RL.tot (Y.take m) (RL.key Y[m]) - RL.tot X (RL.key Y[m]) = t0 at *
       clear hD hD1 hTb hTl hat hwc hst hkey hgd hB1 hB3 hf hown1
       clear hTx
       go_wp2
       go_big_region
       go_wp2
       go_roundw
       case rel=>exact ⟨m+1,_,by omega,by go_num,hown4,HD1.out,hbel4⟩
       case measure=>simp [intOf]; omega
      ·
       have ek:Y.take m = Y:=List.take_of_length_le (by omega)
       rw [ek] at hD
       have hbelw:=bel_adv hbel2 hbel
       have hKG:∀ c,(RL.has X c || RL.has Y c) = true→goodT c:=fun c hc=>by
        rw [Bool.or_eq_true] at hc
        rcases hc with hc | hc
        ·
         exact has_good HZX.out HXF.out c hc
        ·
         exact has_good HZ2.out HYF.out c hc
       go_wp2_with fail
       refine (collect_any w2.heap.size (k+m) D _ _ _ hown hD hKG (by omega)).mono ?_
       rintro e w4 ⟨hb4,⟨hbad,rfl⟩ | ⟨hgood,A4,cap4,zs,rfl,hS4,hyn,hyc,hcm4,hzs,hmem⟩⟩
       ·
        have HP:Hid (cErr xs ys = 4):=by
         obtain ⟨s1,s2,s3⟩:=HSL.out
         have h4:anyOver (cmpL X Y) = true:=(Rec.any_iff RL_law maxN s1).2 (by
          obtain ⟨c,hc1,hc2⟩:=hbad
          exact ⟨c,by rw [s3,Bool.or_comm]; exact hc1,by rw [s2]; exact hc2⟩)
         rw [Hid,HE.out,h4]; rfl
        go_wp2
        go_ret2
        exact LinesPost.fail (cR_nil HP.out (by omega)) HP.out (bel_adv hbelw hb4)
       ·
        have HP:Hid (cErr xs ys = 0):=by
         obtain ⟨s1,s2,s3⟩:=HSL.out
         have h4:anyOver (cmpL X Y) = false:=by
          cases hh:anyOver (cmpL X Y)
          ·
           rfl
          ·
           obtain ⟨c,hc1,hc2⟩:=(Rec.any_iff RL_law maxN s1).1 hh
           rw [s3,Bool.or_comm] at hc1
           rw [s2,hgood c hc1] at hc2
           cases hc2
         rw [Hid,HE.out,h4]; rfl
        have HM:Hid (cR xs ys = zs):=by
         obtain ⟨s1,s2,s3⟩:=HSL.out
         rw [Hid,HR.out HP.out]
         exact (Rec.filtered_eq RL_law s1 hzs (fun x=>by rw [s2,s3,Bool.or_comm]; exact hmem x)).symm
        go_wp2
        go_ret2
        rw [HM.out,HP.out]
        exact ⟨A4,cap4,rfl,hS4,hyc,hcm4,bel_adv hbelw hb4⟩
  ·
   have h1':(mErr ys != 0) = true:=by simpa using h1
   have HE:Hid (cErr xs ys = mErr ys):=by rw [Hid,cErr,if_neg (by simp [H0.out]),if_pos h1]
   have H1:=Lib.hid h1
   clear h1
   go_wp2
   go_ret2
   exact LinesPost.fail (cR_nil HE.out H1.out) HE.out hbel2
 ·
  have h0':(mErr xs != 0) = true:=by simpa using h0
  have HE:Hid (cErr xs ys = mErr xs):=by rw [Hid,cErr,if_pos h0]
  have H0:=Lib.hid h0
  clear h0
  go_wp2
  go_ret2
  exact LinesPost.fail (cR_nil HE.out H0.out) HE.out hb1
end Go.Proofs.YtjncpgbhokjbfaaGreat
namespace Go.Proofs.YtjncpgbhokjbfaaGreat
open Go.RowKit
def inR (n lo hi : Int) : Bool:=decide (lo≤n∧n≤hi)
theorem inR_yes {n lo hi : Int} (h1:lo≤n) (h2:n≤hi) : inR n lo hi = true:=by simp [inR,h1,h2]
set_option maxHeartbeats 1000000 in
theorem within_any (v lo hi : Int) (w:World) : Calls Tryz.prog 29 #[.int .i64 v,.int .i64 lo,.int .i64 hi] w fun e w'=>e = .returned (.bool (inR v lo hi))∧w = w':=by
 by_cases h1:lo≤v <;> by_cases h2:v≤hi
 all_goals
  have hb:inR v lo hi = (decide (lo≤v) && decide (v≤hi)):=by simp [inR]
  have HB:=Lib.hid hb; clear hb
  go_enter Tryz.func29,Tryz.ntmps29
  go_wp2
  go_ret
  exact ⟨by rw [HB.out]; simp [h1,h2],rfl⟩
def holdN (debt net keep share : Int) : Int:=min (min debt (partN net share 1000000 1 0)) (max (net - keep) 0)
set_option maxHeartbeats 1000000 in
theorem reduction_any (debt net keep share : Int) (w:World) (h1:0≤net) (h2:net≤1000000000) (h3:0≤keep) (h4:keep≤1000000000) (h5:0≤share) (h6:share≤1000000) :
  Calls Tryz.prog 65 #[.int .i64 debt,.int .i64 net,.int .i64 keep,.int .i64 share] w fun e w'=>e = .returned (.tuple #[.int .i64 (holdN debt net keep share),.int .i64 0])∧∃ q,w' = w.drewN q:=by
 obtain ⟨E1,E2,E3⟩:=rate_part net share 0 h1 (by omega) h5 h6 rfl
 have HH:Hid (holdN debt net keep share = min (min debt (partN net share 1000000 1 0)) (max (net - keep) 0)):=rfl
 go_enter Tryz.func65,Tryz.ntmps65
 go_wp2_with fail
 refine (part_any _ _ _ _ _ _).mono ?_
 rintro e w1 ⟨rfl,q1,rfl⟩
 rw [E1]
 generalize partN net share 1000000 1 0 = p at *
 clear E1
 go_wp2
 all_goals go_ret2
 all_goals exact ⟨congrArg (fun n:Int=>Ending.returned (Value.tuple #[.int .i64 n,.int .i64 0])) (by rw [HH.out]; omega),q1,rfl⟩
def recOk (balance net keep share : Int) : Bool:=inR balance (-1000000000000) 1000000000000 && inR net 0 1000000000 && inR keep 0 1000000000 && inR share 0 1000000
def recPay (balance net keep share : Int) : Int:=if net≤balance then balance else net - holdN (net - balance) net keep share
def recV (balance net keep share : Int) : Value:=if recOk balance net keep share then .tuple #[.int .i64 (recPay balance net keep share),.int .i64 (balance - recPay balance net keep share),.int .i64 0] else .tuple #[.int .i64 0,.int .i64 0,.int .i64 2]
theorem holdN_bd (debt net keep share : Int) (hd:0≤debt) (h1:0≤net) (h2:net≤1000000000) (h5:0≤share) (h6:share≤1000000) : 0≤holdN debt net keep share∧holdN debt net keep share≤debt∧holdN debt net keep share≤net:=by
 obtain ⟨E1,E2,E3⟩:=rate_part net share 0 h1 (by omega) h5 h6 rfl
 unfold holdN
 omega
set_option maxHeartbeats 2000000 in
theorem recover_any (b n k s : Int) (w:World) :
  Calls Tryz.prog 34 #[.int .i64 b,.int .i64 n,.int .i64 k,.int .i64 s] w fun e w'=>e = .returned (recV b n k s)∧∃ q,w' = w.drewN q:=by
 rcases hok:recOk b n k s with _ | _
 ·
  rw [recV,hok]
  have HOK:=Lib.hid hok
  clear hok
  rw [if_neg (by simp)]
  by_cases c0:inR b (-1000000000000) 1000000000000 = true
  rotate_left
  ·
   go_enter Tryz.func34,Tryz.ntmps34
   go_wp2_with (go_at_call 29; refine (within_any _ _ _ _).mono ?_; rintro e w' ⟨rfl,rfl⟩)
   go_ret3
   exact ⟨rfl,0,rfl⟩
  by_cases c1:inR n 0 1000000000 = true
  rotate_left
  ·
   go_enter Tryz.func34,Tryz.ntmps34
   go_wp2_with (go_at_call 29; refine (within_any _ _ _ _).mono ?_; rintro e w' ⟨rfl,rfl⟩)
   go_ret3
   exact ⟨rfl,0,rfl⟩
  by_cases c2:inR k 0 1000000000 = true
  rotate_left
  ·
   go_enter Tryz.func34,Tryz.ntmps34
   go_wp2_with (go_at_call 29; refine (within_any _ _ _ _).mono ?_; rintro e w' ⟨rfl,rfl⟩)
   go_ret3
   exact ⟨rfl,0,rfl⟩
  by_cases c3:inR s 0 1000000 = true
  rotate_left
  ·
   go_enter Tryz.func34,Tryz.ntmps34
   go_wp2_with (go_at_call 29; refine (within_any _ _ _ _).mono ?_; rintro e w' ⟨rfl,rfl⟩)
   go_ret3
   exact ⟨rfl,0,rfl⟩
  skip
  exfalso
  have:=HOK.out
  simp [recOk,c0,c1,c2,c3] at this
 ·
  rw [recV,hok,if_pos rfl]
  simp only [recOk,Bool.and_eq_true] at hok
  obtain ⟨⟨⟨o1,o2⟩,o3⟩,o4⟩:=hok
  have p1 : -1000000000000≤b∧b≤1000000000000:=by simpa [inR] using o1
  have p2:0≤n∧n≤1000000000:=by simpa [inR] using o2
  have p3:0≤k∧k≤1000000000:=by simpa [inR] using o3
  have p4:0≤s∧s≤1000000:=by simpa [inR] using o4
  obtain ⟨p1a,p1b⟩:=p1
  obtain ⟨p2a,p2b⟩:=p2
  obtain ⟨p3a,p3b⟩:=p3
  obtain ⟨p4a,p4b⟩:=p4
  by_cases hb:n≤b
  ·
   have HP:Hid (recPay b n k s = b):=by rw [Hid,recPay,if_pos hb]
   go_enter Tryz.func34,Tryz.ntmps34
   go_wp2_with (go_at_call 29; refine (within_any _ _ _ _).mono ?_; rintro e w' ⟨rfl,rfl⟩)
   go_ret3
   exact ⟨by rw [HP.out,Int.sub_self]; rfl,0,rfl⟩
  ·
   have HP:Hid (recPay b n k s = n - holdN (n - b) n k s):=by rw [Hid,recPay,if_neg hb]
   have hh:=holdN_bd (n - b) n k s (by omega) p2a p2b p4a p4b
   obtain ⟨hh1,hh2,hh3⟩:=hh
   go_enter Tryz.func34,Tryz.ntmps34
   go_wp2_with (go_at_call 29; refine (within_any _ _ _ _).mono ?_; rintro e w' ⟨rfl,rfl⟩)
   refine (reduction_any _ _ _ _ _ p2a p2b p3a p3b p4a p4b).mono ?_
   rintro e w1 ⟨rfl,q1,rfl⟩
   generalize holdN (n - b) n k s = hh at *
   go_wp2
   go_ret3
   exact ⟨by rw [HP.out]; rfl,q1,rfl⟩
end Go.Proofs.YtjncpgbhokjbfaaGreat
