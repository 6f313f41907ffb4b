/- Joined texts: DedV DedV2 DedW TakeR Take2 R32. Conditions: as stated. -/
import Derived.Deep.Light
import Derived.Test.YtlhkojcmcmkmaaaGreatJRound2
import Derived.Test.YtlhkojcmcmkmaaaGreatJR30b
import Derived.Test.YtlhkojcmcmkmaaaGreatJRec
import Derived.Test.YtlhkojcmcmkmaaaGreatJAlc
import Derived.Test.YtlhkojcmcmkmaaaGreatJNetS
namespace Go.Proofs.YtlhkojcmcmkmaaaGreat
open Go.RowKit
theorem okD_eq (xs:List DedT) (i:Nat) (x:DedT) (l:Bool) (hl:i = 0 ∨ (∃ p,xs[i - 1]? = some p∧l = Op.bytesLess p.code.toList x.code.toList)) :
  okD xs i x = decide (nameB x.code = true∧(i = 0 ∨ l = true)∧0≤x.rank∧x.rank≤99∧0≤x.amount∧x.amount≤1000000000∧0≤x.cap∧x.cap≤1000000000∧0≤x.rate∧x.rate≤1000000):=by
 rw [Bool.eq_iff_iff]
 rcases hl with rfl | ⟨p,hp,rfl⟩
 ·
  simp [okD,ascAt,inB,and_assoc]
 ·
  simp [okD,ascAt,inB,hp,and_assoc]
theorem okR_eq (xs:List Elem) (i:Nat) (x:Elem) (l:Bool) (hl:i = 0 ∨ (∃ p,xs[i - 1]? = some p∧l = Op.bytesLess p.code.toList x.code.toList)) :
  okR xs i x = decide (nameB x.code = true∧(i = 0 ∨ l = true)∧0≤x.amount∧x.amount≤1000000000000):=by
 rw [Bool.eq_iff_iff]
 rcases hl with rfl | ⟨p,hp,rfl⟩
 ·
  simp [okR,ascAt,inB]
 ·
  simp [okR,ascAt,inB,hp,and_assoc]
set_option maxHeartbeats 4000000 in
theorem validD_any (A:Option Addr) (cap:Nat) (xs:List DedT) (w:World) (h:SliceOf encD 6 w w.heap.size A xs) (hz : ∀ x ∈ xs,x.code.size≤maxLen) (hl:xs.length≤9223372036854775807) :
    Calls Tryz.prog 156 #[.slice A xs.length cap] w fun e w'=>e = .returned (.bool (validD xs))∧Below w.heap.size w w':=by
  have HZ:=Lib.hid hz; clear hz
  by_cases hlen:16 < xs.length
  · have HV:Hid (validD xs = false):=allOk_long hlen
    go_enter Tryz.func156,Tryz.ntmps156
    go_wp2
    go_ret
    exact ⟨by rw [HV.out]; rfl,Below.refl _ _⟩
  · have hlen':xs.length≤16:=by omega
    clear hlen hl
    go_enter Tryz.func156,Tryz.ntmps156
    go_wp2
    go_loopw [10] (fun i wr=>∃ k:Nat,k≤xs.length∧i = .int .i64 k∧Hid (∀ j,(hj:j < xs.length)→j < k→okD xs j xs[j] = true)∧Below w.heap.size w wr) (fun i _=>xs.length - (intOf i).toNat)
    case atStart=>exact ⟨0,by omega,rfl,fun j _ hj=>absurd hj (by omega),Below.refl _ _⟩
    case round =>
      obtain ⟨k,hk,rfl,hall,hbel⟩:=hrel
      by_cases hlt:k < xs.length
      · obtain ⟨b,off,rfl,hb,hc⟩:=(h.below hbel).at_ hlt
        have c0:=hc 0 _ rfl
        have c1:=hc 1 _ rfl
        have c2:=hc 2 _ rfl
        have c3:=hc 3 _ rfl
        have c4:=hc 4 _ rfl
        have c5:=hc 5 _ rfl
        simp only [Nat.add_zero] at c0
        have hzk:=HZ.out _ (List.getElem_mem hlt)
        have hbs:=hbel.size
        have HNO:Hid (okD xs k xs[k] = false→validD xs = false):=allOk_no hlt
        clear hc
        have hB:Below w.heap.size w (wr.alloc (.cells (encD xs[k]).toArray 166)):=hbel.alloc hbs _
        rcases Nat.lt_or_ge 0 k with hk0 | hk0
        rotate_left
        · have hO:=okD_eq xs k xs[k] true (.inl (by omega))
          have hg0:decide ((0:Int) < (k:Int)) = false:=by simp; omega
          have hg1:decide (0 < k) = false:=by simp; omega
          have HO:=Lib.hid hO
          clear hO
          go_wp2_with (go_at_call 82; refine (isName_any _ _ hzk).mono ?_; rintro e w' ⟨rfl,rfl⟩)
          · have hf:(!nameB xs[k].code) = true:=by assumption
            go_ret
            exact ⟨by rw [HNO.out (by simp at hf; simp [okD,hf])]; rfl,hB⟩
          · have hf:(!nameB xs[k].code) = false:=by assumption
            go_quiet (fail)
            go_wp2
            all_goals first
              | (go_ret
                 refine ⟨?_,below_drewN (hbel.alloc hbs _) _⟩
                 have hq:okD xs (k) xs[k] = false:=by
                   go_light
                   rw [HO.out]
                   apply decide_eq_false
                   rintro ⟨h1,h2,h3,h4,h5,h6,h7,h8,h9,h10⟩
                   first | omega | (simp_all; done) | (simp_all; omega)
                 rw [HNO.out hq]; rfl)
              | (go_roundw
                 case rel =>
                   have hok:∀ j,(hj:j < xs.length)→j < k+1→okD xs j xs[j] = true:=by
                     intro j hj hjk
                     rcases Nat.lt_or_ge j (k) with h1 | h1
                     · exact hall.out j hj h1
                     · obtain rfl:j = k:=by omega
                       go_light
                       rw [HO.out]
                       apply decide_eq_true
                       refine ⟨by simpa using hf,by omega,?_,?_,?_,?_,?_,?_,?_,?_⟩
                       all_goals first | omega | (simp_all; done) | (simp_all; omega)
                   first | exact ⟨k+1,by omega,by go_num,hok,below_drewN (hbel.alloc hbs _) _⟩ | ((repeat apply Exists.intro); exact ⟨⟨k+1,by omega,by go_num,hok,below_drewN (hbel.alloc hbs _) _⟩,rfl⟩)
                 case measure=>simp [intOf]; omega)
        · obtain ⟨m,rfl⟩ : ∃ m,k = m+1:=⟨k - 1,by omega⟩
          obtain ⟨b',off',hA',hb',hc'⟩:=(h.below hbel).at_ (show m < xs.length by omega)
          injection hA' with hA'
          injection hA' with h1 h2
          subst h1 h2
          have p0:=hc' 0 _ rfl
          simp only [Nat.add_zero] at p0
          have hO:=okD_eq xs (m+1) xs[m+1] _ (.inr ⟨xs[m],by simp,rfl⟩)
          have HO:=Lib.hid hO
          have hbwr:b < wr.heap.size:=by omega
          clear hc' hO
          go_wp2_with (go_at_call 82; refine (isName_any _ _ hzk).mono ?_; rintro e w' ⟨rfl,rfl⟩)
          · have hf:(!nameB xs[m+1].code) = true:=by assumption
            go_ret
            exact ⟨by rw [HNO.out (by simp at hf; simp [okD,hf])]; rfl,hB⟩
          · have hf:(!nameB xs[m+1].code) = false:=by assumption
            go_quiet (fail)
            go_wp2
            all_goals first
              | (go_ret
                 refine ⟨?_,below_drewN (hbel.alloc hbs _) _⟩
                 have hq:okD xs (m+1) xs[m+1] = false:=by
                   go_light
                   rw [HO.out]
                   apply decide_eq_false
                   rintro ⟨h1,h2,h3,h4,h5,h6,h7,h8,h9,h10⟩
                   first | omega | (simp_all; done) | (simp_all; omega)
                 rw [HNO.out hq]; rfl)
              | (go_roundw
                 case rel =>
                   have hok:∀ j,(hj:j < xs.length)→j < m+1+1→okD xs j xs[j] = true:=by
                     intro j hj hjk
                     rcases Nat.lt_or_ge j (m+1) with h1 | h1
                     · exact hall.out j hj h1
                     · obtain rfl:j = m+1:=by omega
                       go_light
                       rw [HO.out]
                       apply decide_eq_true
                       refine ⟨by simpa using hf,.inr (by simp_all),?_,?_,?_,?_,?_,?_,?_,?_⟩
                       all_goals first | omega | (simp_all; done) | (simp_all; omega)
                   first | exact ⟨m+1+1,by omega,by go_num,hok,below_drewN (hbel.alloc hbs _) _⟩ | ((repeat apply Exists.intro); exact ⟨⟨m+1+1,by omega,by go_num,hok,below_drewN (hbel.alloc hbs _) _⟩,rfl⟩)
                 case measure=>simp [intOf]; omega)
      · go_wp2
        go_ret
        have hv:validD xs = true:=allOk_yes hlen' (fun i hi=>hall.out i hi (by omega))
        exact ⟨by rw [hv]; rfl,hbel⟩
set_option maxHeartbeats 4000000 in
theorem rec_any (A:Option Addr) (cap:Nat) (xs:List Elem) (w:World) (h:SliceOf encE 2 w w.heap.size A xs) (hz : ∀ x ∈ xs,x.code.size≤maxLen) (hl:xs.length≤9223372036854775807) :
    Calls Tryz.prog 69 #[.slice A xs.length cap] w fun e w'=>e = .returned (.bool (recB xs))∧Below w.heap.size w w':=by
  have HZ:=Lib.hid hz; clear hz
  by_cases hlen:128 < xs.length
  · have HV:Hid (recB xs = false):=allOk_long hlen
    go_enter Tryz.func69,Tryz.ntmps69
    go_wp2
    go_ret
    exact ⟨by rw [HV.out]; rfl,Below.refl _ _⟩
  · have hlen':xs.length≤128:=by omega
    clear hlen hl
    go_enter Tryz.func69,Tryz.ntmps69
    go_wp2
    go_loopw [10] (fun i wr=>∃ k:Nat,k≤xs.length∧i = .int .i64 k∧Hid (∀ j,(hj:j < xs.length)→j < k→okR xs j xs[j] = true)∧Below w.heap.size w wr) (fun i _=>xs.length - (intOf i).toNat)
    case atStart=>exact ⟨0,by omega,rfl,fun j _ hj=>absurd hj (by omega),Below.refl _ _⟩
    case round =>
      obtain ⟨k,hk,rfl,hall,hbel⟩:=hrel
      by_cases hlt:k < xs.length
      · obtain ⟨b,off,rfl,hb,hc⟩:=(h.below hbel).at_ hlt
        have c0:=hc 0 _ rfl
        have c1:=hc 1 _ rfl
        simp only [Nat.add_zero] at c0
        have hzk:=HZ.out _ (List.getElem_mem hlt)
        have hbs:=hbel.size
        have HNO:Hid (okR xs k xs[k] = false→recB xs = false):=allOk_no hlt
        clear hc
        have hB:Below w.heap.size w (wr.alloc (.cells (encE xs[k]).toArray 69)):=hbel.alloc hbs _
        rcases Nat.lt_or_ge 0 k with hk0 | hk0
        rotate_left
        · have hO:=okR_eq xs k xs[k] true (.inl (by omega))
          have hg0:decide ((0:Int) < (k:Int)) = false:=by simp; omega
          have hg1:decide (0 < k) = false:=by simp; omega
          have HO:=Lib.hid hO
          clear hO
          go_wp2_with (go_at_call 82; refine (isName_any _ _ hzk).mono ?_; rintro e w' ⟨rfl,rfl⟩)
          · have hf:(!nameB xs[k].code) = true:=by assumption
            go_ret
            exact ⟨by rw [HNO.out (by simp at hf; simp [okR,hf])]; rfl,hB⟩
          · have hf:(!nameB xs[k].code) = false:=by assumption
            go_quiet (fail)
            go_wp2
            all_goals first
              | (go_ret
                 refine ⟨?_,below_drewN (hbel.alloc hbs _) _⟩
                 have hq:okR xs (k) xs[k] = false:=by
                   go_light
                   rw [HO.out]
                   apply decide_eq_false
                   rintro ⟨h1,h2,h3,h4⟩
                   first | omega | (simp_all; done) | (simp_all; omega)
                 rw [HNO.out hq]; rfl)
              | (go_roundw
                 case rel =>
                   have hok:∀ j,(hj:j < xs.length)→j < k+1→okR xs j xs[j] = true:=by
                     intro j hj hjk
                     rcases Nat.lt_or_ge j (k) with h1 | h1
                     · exact hall.out j hj h1
                     · obtain rfl:j = k:=by omega
                       go_light
                       rw [HO.out]
                       apply decide_eq_true
                       refine ⟨by simpa using hf,by omega,?_,?_⟩
                       all_goals first | omega | (simp_all; done) | (simp_all; omega)
                   first | exact ⟨k+1,by omega,by go_num,hok,below_drewN (hbel.alloc hbs _) _⟩ | ((repeat apply Exists.intro); exact ⟨⟨k+1,by omega,by go_num,hok,below_drewN (hbel.alloc hbs _) _⟩,rfl⟩)
                 case measure=>simp [intOf]; omega)
        · obtain ⟨m,rfl⟩ : ∃ m,k = m+1:=⟨k - 1,by omega⟩
          obtain ⟨b',off',hA',hb',hc'⟩:=(h.below hbel).at_ (show m < xs.length by omega)
          injection hA' with hA'
          injection hA' with h1 h2
          subst h1 h2
          have p0:=hc' 0 _ rfl
          simp only [Nat.add_zero] at p0
          have hO:=okR_eq xs (m+1) xs[m+1] _ (.inr ⟨xs[m],by simp,rfl⟩)
          have HO:=Lib.hid hO
          have hbwr:b < wr.heap.size:=by omega
          clear hc' hO
          go_wp2_with (go_at_call 82; refine (isName_any _ _ hzk).mono ?_; rintro e w' ⟨rfl,rfl⟩)
          · have hf:(!nameB xs[m+1].code) = true:=by assumption
            go_ret
            exact ⟨by rw [HNO.out (by simp at hf; simp [okR,hf])]; rfl,hB⟩
          · have hf:(!nameB xs[m+1].code) = false:=by assumption
            go_quiet (fail)
            go_wp2
            all_goals first
              | (go_ret
                 refine ⟨?_,below_drewN (hbel.alloc hbs _) _⟩
                 have hq:okR xs (m+1) xs[m+1] = false:=by
                   go_light
                   rw [HO.out]
                   apply decide_eq_false
                   rintro ⟨h1,h2,h3,h4⟩
                   first | omega | (simp_all; done) | (simp_all; omega)
                 rw [HNO.out hq]; rfl)
              | (go_roundw
                 case rel =>
                   have hok:∀ j,(hj:j < xs.length)→j < m+1+1→okR xs j xs[j] = true:=by
                     intro j hj hjk
                     rcases Nat.lt_or_ge j (m+1) with h1 | h1
                     · exact hall.out j hj h1
                     · obtain rfl:j = m+1:=by omega
                       go_light
                       rw [HO.out]
                       apply decide_eq_true
                       refine ⟨by simpa using hf,.inr (by simp_all),?_,?_⟩
                       all_goals first | omega | (simp_all; done) | (simp_all; omega)
                   first | exact ⟨m+1+1,by omega,by go_num,hok,below_drewN (hbel.alloc hbs _) _⟩ | ((repeat apply Exists.intro); exact ⟨⟨m+1+1,by omega,by go_num,hok,below_drewN (hbel.alloc hbs _) _⟩,rfl⟩)
                 case measure=>simp [intOf]; omega)
      · go_wp2
        go_ret
        have hv:recB xs = true:=allOk_yes hlen' (fun i hi=>hall.out i hi (by omega))
        exact ⟨by rw [hv]; rfl,hbel⟩
end Go.Proofs.YtlhkojcmcmkmaaaGreat
namespace Go.Proofs.YtlhkojcmcmkmaaaGreat
open Go.RowKit
end Go.Proofs.YtlhkojcmcmkmaaaGreat
namespace Go.Proofs.YtlhkojcmcmkmaaaGreat
open Go.RowKit
theorem ret_tup {a b v : Int} (h:a = b) : Ending.returned (.tuple #[.int .i64 a,.int .i64 v]) = .returned (.tuple #[.int .i64 b,.int .i64 v]):=by rw [h]
set_option maxHeartbeats 1000000 in
theorem amountOf_any (A:Option Addr) (cap:Nat) (xs:List Elem) (c:ByteArray) (w:World) (h:SliceOf encE 2 w w.heap.size A xs) (hl:xs.length≤9223372036854775806) :
  Calls Tryz.prog 199 #[.slice A xs.length cap,.string c] w fun e w'=>e = .returned (.int .i64 (atE xs c))∧Below w.heap.size w w':=by
 go_enter Tryz.func199,Tryz.ntmps199
 go_wp2
 go_loopw [9] (fun i wr=>∃ k:Nat,k≤xs.length∧i = .int .i64 k∧Hid (∀ j,(hj:j < xs.length)→j < k→(xs[j].code.toList == c.toList) = false)∧Below w.heap.size w wr) (fun i _=>xs.length - (intOf i).toNat)
 case atStart=>exact ⟨0,by omega,rfl,fun j _ hj=>absurd hj (by omega),Below.refl _ _⟩
 case round =>
  obtain ⟨k,hk,rfl,hall,hbel⟩:=hrel
  have hbs:=hbel.size
  by_cases hlt:k < xs.length
  ·
   obtain ⟨b,off,rfl,hb,hc⟩:=(h.below hbel).at_ hlt
   have c0:=hc 0 _ rfl
   have c1:=hc 1 _ rfl
   simp only [Nat.add_zero] at c0
   clear hc
   by_cases he:(xs[k].code.toList == c.toList) = true
   ·
    have HV:=Lib.hid (atE_at hlt hall.out he)
    go_wp2
    go_ret
    exact ⟨by rw [HV.out]; rfl,hbel.alloc hbs _⟩
   ·
    have he':(xs[k].code.toList == c.toList) = false:=by simpa using he
    clear he
    go_wp2
    go_roundw
    case rel =>
     refine ⟨k+1,by omega,by go_num,fun j hj hjk=>?_,hbel.alloc hbs _⟩
     rcases Nat.lt_or_ge j k with h1 | h1
     ·
      exact hall.out j hj h1
     ·
      obtain rfl:j = k:=by omega
      exact he'
    case measure=>simp [intOf]; omega
  ·
   have HV:=Lib.hid (atE_none (l:=xs) (c:=c) (fun j hj=>hall.out j hj (by omega)))
   go_wp2
   go_ret
   exact ⟨by rw [HV.out]; rfl,hbel⟩
theorem sumE_take (xs:List Elem) (k:Nat) (h:k < xs.length) : sumE (xs.take (k+1)) = sumE (xs.take k)+xs[k].amount:=by
 rw [List.take_succ_eq_append_getElem h,sumE_append]; simp [sumE]
theorem wantR_ok {d:DedT} {base taken p : Int} (hE:wantE d base taken = 0) (hp:partN base d.rate 1000000 1 4 = p) : wantR d base taken = if 0 < d.cap then min (min (d.amount+p) 1000000000) (max (d.cap - taken) 0) else min (d.amount+p) 1000000000:=by
 rw [wantR,if_pos hE,wantN,wantA,hp]
theorem wantE_1 {d:DedT} {base taken : Int} (h:validD [d] = false) : wantE d base taken = 1:=by rw [wantE,if_pos h]
theorem wantE_2 {d:DedT} {base taken : Int} (h:validD [d] = true) (h2:inB base 1000000000 = false ∨ inB taken 1000000000000 = false) : wantE d base taken = 2:=by
 rw [wantE,if_neg (by simp [h])]
 rcases h2 with h2 | h2
 ·
  rw [if_pos h2]
 ·
  rw [if_pos h2]; split <;> rfl
theorem wantE_0 {d:DedT} {base taken : Int} (h:validD [d] = true) (h1:inB base 1000000000 = true) (h2:inB taken 1000000000000 = true) : wantE d base taken = 0:=by
 rw [wantE,if_neg (by simp [h]),if_neg (by simp [h1]),if_neg (by simp [h2])]
theorem wantR_no {d:DedT} {base taken : Int} (h:wantE d base taken ≠ 0) : wantR d base taken = 0:=by rw [wantR,if_neg h]
set_option maxHeartbeats 2000000 in
theorem wanted_any (d:DedT) (base taken : Int) (w:World) (hz:d.code.size≤maxLen) (ht:I64 taken) :
  Calls Tryz.prog 198 #[.agg #[.string d.code,.int .i64 d.rank,.bool d.before,.int .i64 d.amount,.int .i64 d.rate,.int .i64 d.cap],.int .i64 base,.int .i64 taken] w fun e w'=>e = .returned (.tuple #[.int .i64 (wantR d base taken),.int .i64 (wantE d base taken)])∧Below w.heap.size w w':=by
 obtain ⟨t1,t2⟩:=ht
 go_enter Tryz.func198,Tryz.ntmps198
 go_wp2_with fail
 have hBx:=(Blk.new w 166 #[.string d.code,.int .i64 d.rank,.bool d.before,.int .i64 d.amount,.int .i64 d.rate,.int .i64 d.cap]).alloc (.cells #[.string d.code,.int .i64 d.rank,.bool d.before,.int .i64 d.amount,.int .i64 d.rate,.int .i64 d.cap] 166)
 have hS:=SliceOf.new encD_len (w.alloc (.cells #[.string d.code,.int .i64 d.rank,.bool d.before,.int .i64 d.amount,.int .i64 d.rate,.int .i64 d.cap] 166)) [d] #[.string d.code,.int .i64 d.rank,.bool d.before,.int .i64 d.amount,.int .i64 d.rate,.int .i64 d.cap] 166 rfl
 rw [World.size_alloc] at hS
 refine (validD_any _ 1 [d] _ (hS.more (by simp)) (by simpa using hz) (by simp)).mono ?_
 rintro e w1 ⟨rfl,hb1⟩
 have hbel:Below w.heap.size w w1:=bel_adv (bel_alloc (bel_alloc (Below.refl _ _) _) _) hb1
 have hB1:=hBx.adv hb1
 have hl1:=hB1.lt
 have z0:=hB1.cell 0
 have z1:=hB1.cell 1
 have z2:=hB1.cell 2
 have z3:=hB1.cell 3
 have z4:=hB1.cell 4
 have z5:=hB1.cell 5
 simp only [nqg,nqh,nqi] at z0 z1 z2 z3 z4 z5
 clear hb1 hBx hS hB1
 by_cases hv:validD [d] = true
 ·
  have hok:=validD_one.1 hv
  by_cases h1:0≤base
  ·
   by_cases h2:base≤1000000000
   ·
    by_cases h3:0≤taken
    ·
     by_cases h4:taken≤1000000000000
     ·
      have hE:=wantE_0 hv (inB_iff.2 ⟨h1,h2⟩) (inB_iff.2 ⟨h3,h4⟩)
      obtain ⟨q1,q2,q3,_,_⟩:=wantA_bd hok h1 h2
      obtain ⟨_,_,_,a0,a1,c0,c1,_,_⟩:=hok
      have HQ:=Lib.hid q1
      clear q1
      generalize hp:partN base d.rate 1000000 1 4 = p at q2 q3
      have HP:=Lib.hid hp
      have HW:=Lib.hid (wantR_ok hE hp)
      have HE:=Lib.hid hE
      clear hp hE
      go_wp2_with fail
      refine (part_any _ _ _ _ _ _).mono ?_
      rintro e w' ⟨rfl,q,rfl⟩
      rw [HQ.out,HP.out]
      go_wp2
      all_goals
       go_ret2
       refine ⟨?_,below_drewN hbel q⟩
       rw [HW.out,HE.out]
       exact ret_tup (by first | omega | (simp_all; done) | (simp_all; omega))
     ·
      have HE:=Lib.hid (wantE_2 (base:=base) hv (.inr (inB_no.2 (.inr (show 1000000000000 < taken by omega)))))
      have HR:=Lib.hid (wantR_no (d:=d) (base:=base) (taken:=taken) (by rw [HE.out]; decide))
      go_wp2
      go_ret2
      exact ⟨by rw [HE.out,HR.out]; rfl,hbel⟩
    ·
     have HE:=Lib.hid (wantE_2 (base:=base) hv (.inr (inB_no.2 (.inl (show taken < 0 by omega)))))
     have HR:=Lib.hid (wantR_no (d:=d) (base:=base) (taken:=taken) (by rw [HE.out]; decide))
     go_wp2
     go_ret2
     exact ⟨by rw [HE.out,HR.out]; rfl,hbel⟩
   ·
    have HE:=Lib.hid (wantE_2 (taken:=taken) hv (.inl (inB_no.2 (.inr (show 1000000000 < base by omega)))))
    have HR:=Lib.hid (wantR_no (d:=d) (base:=base) (taken:=taken) (by rw [HE.out]; decide))
    go_wp2
    go_ret2
    exact ⟨by rw [HE.out,HR.out]; rfl,hbel⟩
  ·
   have HE:=Lib.hid (wantE_2 (taken:=taken) hv (.inl (inB_no.2 (.inl (show base < 0 by omega)))))
   have HR:=Lib.hid (wantR_no (d:=d) (base:=base) (taken:=taken) (by rw [HE.out]; decide))
   go_wp2
   go_ret2
   exact ⟨by rw [HE.out,HR.out]; rfl,hbel⟩
 ·
  have hv':validD [d] = false:=by simpa using hv
  have HE:=Lib.hid (wantE_1 (base:=base) (taken:=taken) hv')
  have HR:=Lib.hid (wantR_no (d:=d) (base:=base) (taken:=taken) (by rw [HE.out]; decide))
  clear hv
  go_wp2
  go_ret2
  exact ⟨by rw [HE.out,HR.out]; rfl,hbel⟩
set_option maxRecDepth 100000 in
set_option maxHeartbeats 1000000 in
theorem clone_any (A:Option Addr) (cap:Nat) (xs:List DedT) (w:World) (h:SliceOf encD 6 w w.heap.size A xs) (hl:xs.length≤1000000) :
  Calls Tryz.prog 195 #[.slice A xs.length cap] w fun e w'=>∃ v,e = .returned v∧Own encD 6 166 w' w.heap.size v xs∧Below w.heap.size w w':=by
 rcases A with _ | a
 ·
  have hx:xs = []:=by
   rcases xs with _ | ⟨y,ys⟩
   ·
    rfl
   ·
    obtain ⟨b,off,hA,_⟩:=h (by simp)
    cases hA
  subst hx
  have he:∀ w:World,(binOp .eql 46 (.slice none 0 cap) (.slice none 0 0)).run Tryz.prog w = .ok (.bool true) w:=fun _=>rfl
  go_enter Tryz.func195,Tryz.ntmps195
  go_wp2
  go_ret
  exact ⟨_,rfl,Own.nil_ _ _,Below.refl _ _⟩
 ·
  have hlit:=Own.lit encD_len w ([] : List DedT) #[] 166 rfl (by simp) (Nat.le_refl _)
  have hS:=h.advA (.cells #[] 166)
  have he:∀ w:World,(binOp .eql 46 (.slice (some a) xs.length cap) (.slice none 0 0)).run Tryz.prog w = .ok (.bool false) w:=fun _=>rfl
  go_enter Tryz.func195,Tryz.ntmps195
  go_wp2_with (at_builtin; (refine wpList_append_list (ys:=xs) _ _ 46 _ 56 _ infoD Tryz.underlying46 hlit hS encD_len (by omega) rfl encD_one (by simp; omega) (by omega) (by simp) (by rfl) (by rfl) (by rfl) (by rfl) (by rfl) ?_); intro v2 w6 hown6 hg6)
  go_ret
  exact ⟨v2,rfl,by simpa using hown6,fresh_below hg6⟩
end Go.Proofs.YtlhkojcmcmkmaaaGreat
namespace Go.Proofs.YtlhkojcmcmkmaaaGreat
open Go.RowKit
def EPost (m:List Elem) (er:Int) (w:World) (e:Ending) (w' : World) : Prop :=
 ∃ A cap,e = .returned (.tuple #[.slice A m.length cap,.int .i64 er])∧SliceOf encE 2 w' w'.heap.size A m∧m.length≤cap∧cap≤maxLen∧Below w.heap.size w w'
def EPostF (m:List Elem) (er:Int) (w:World) (e:Ending) (w' : World) : Prop :=
 ∃ A cap,e = .returned (.tuple #[.slice A m.length cap,.int .i64 er])∧SliceOf encE 2 w' w'.heap.size A m∧m.length≤cap∧cap≤maxLen∧(∀ a,A = some a→w.heap.size≤a.block)∧Below w.heap.size w w'
theorem EPostF.fail {m:List Elem} {er n : Int} {w W : World} (hm:m = []) (he:er = n) (hb:Below w.heap.size w W) : EPostF m er w (Ending.returned (.tuple #[.slice none 0 0,.int .i64 n])) W:=by
 subst hm he
 exact ⟨none,0,rfl,SliceOf.nil_,by simp,by unfold maxLen; omega,(fun a ha=>by cases ha),hb⟩
theorem EPostF.e {m:List Elem} {er:Int} {w w' : World} {e:Ending} (h:EPostF m er w e w') : EPost m er w e w':=by
 obtain ⟨A,c,h1,h2,h3,h4,_,h6⟩:=h
 exact ⟨A,c,h1,h2,h3,h4,h6⟩
end Go.Proofs.YtlhkojcmcmkmaaaGreat
namespace Go.Proofs.YtlhkojcmcmkmaaaGreat
open Go.RowKit
def SlE (wr:World) (v:Value) (m:List Elem) : Prop:=∃ A c,v = .slice A m.length c∧SliceOf encE 2 wr wr.heap.size A m∧m.length≤c∧c≤maxLen
theorem SlE.adv {w w' : World} {v:Value} {m:List Elem} (h:SlE w v m) (hb:Below w.heap.size w w') : SlE w' v m:=by
 obtain ⟨A,c,h1,h2,h3,h4⟩:=h
 exact ⟨A,c,h1,h2.adv hb,h3,h4⟩
def SlF (B:Nat) (wr:World) (v:Value) (m:List Elem) : Prop:=∃ A c,v = .slice A m.length c∧SliceOf encE 2 wr wr.heap.size A m∧m.length≤c∧c≤maxLen∧∀ a,A = some a→B≤a.block
theorem Own.slF {w:World} {base B : Nat} {e:TypeId} {v:Value} {m:List Elem} (h:Own encE 2 e w base v m) (hB:B≤base) : SlF B w v m:=by
 obtain ⟨A,c,h1,h2,h5,h3,h4⟩:=h.form2 encE_len
 exact ⟨A,c,h1,h2,h3,h4,fun a ha=>Nat.le_trans hB (h5 a ha)⟩
end Go.Proofs.YtlhkojcmcmkmaaaGreat
namespace Go.Proofs.YtlhkojcmcmkmaaaGreat
open Go.RowKit
structure RulesM where
 Aw:Option Addr
 cw:Nat
 ws:List WageT
 As:Option Addr
 cs:Nat
 ss:List SchT
 tm:TarM
 count:Int
 sh:ShT
 recover:Int
def RulesM.t (m:RulesM) : RulesT:=⟨m.ws,m.ss,m.tm.t,m.count,m.sh,m.recover⟩
def RulesM.val (m:RulesM) : Value:=.agg #[.slice m.Aw m.ws.length m.cw,.slice m.As m.ss.length m.cs,.int .i64 m.tm.t.method,.slice m.tm.Ab m.tm.t.brs.length m.tm.cb,.int .i64 m.tm.t.allowance,.int .i64 m.tm.t.credit,.int .i64 m.tm.t.unit,.int .i64 m.tm.t.mode,.slice m.tm.Ar m.tm.t.rows.length m.tm.cr,.int .i64 m.count,.int .i64 m.sh.fixed,.int .i64 m.sh.dependent,.int .i64 m.sh.lower,.int .i64 m.sh.share,.int .i64 m.sh.top,.int .i64 m.recover]
structure RulesM.In (m:RulesM) (w:World) : Prop where
 ws:SliceOf encW 6 w w.heap.size m.Aw m.ws
 ss:SliceOf encSch 8 w w.heap.size m.As m.ss
 tm:m.tm.In w
theorem RulesM.In.adv {m:RulesM} {w w' : World} (h:m.In w) (hb:Below w.heap.size w w') : m.In w':=⟨h.ws.adv hb,h.ss.adv hb,h.tm.adv hb⟩
structure PersonM where
 deps:Int
 Ad:Option Addr
 cd:Nat
 ds:List DedT
 Ao:Option Addr
 co:Nat
 os:List OrdT
 Ae:Option Addr
 ce:Nat
 es:List EmpC
def PersonM.t (m:PersonM) : PersonT:=⟨m.deps,m.ds,m.os,m.es.map EmpC.v⟩
def PersonM.val (m:PersonM) : Value:=.agg #[.int .i64 m.deps,.slice m.Ad m.ds.length m.cd,.slice m.Ao m.os.length m.co,.slice m.Ae m.es.length m.ce]
structure PersonM.In (m:PersonM) (w:World) : Prop where
 ds:SliceOf encD 6 w w.heap.size m.Ad m.ds
 os:SliceOf encOd 5 w w.heap.size m.Ao m.os
 es:SliceOf encEm 2 w w.heap.size m.Ae m.es
 ins:∀ e ∈ m.es,SliceOf encI 1 w w.heap.size e.A e.l
theorem PersonM.In.adv {m:PersonM} {w w' : World} (h:m.In w) (hb:Below w.heap.size w w') : m.In w':=⟨h.ds.adv hb,h.os.adv hb,h.es.adv hb,fun e he=>(h.ins e he).adv hb⟩
structure YearM where
 periods:Int
 income:Int
 withheld:Int
 Ai:Option Addr
 ci:Nat
 ins:List Int
 At:Option Addr
 ct:Nat
 taken:List Elem
def YearM.t (m:YearM) : YearT:=⟨m.periods,m.income,m.withheld,m.ins,m.taken⟩
def YearM.val (m:YearM) : Value:=.agg #[.int .i64 m.periods,.int .i64 m.income,.int .i64 m.withheld,.slice m.Ai m.ins.length m.ci,.slice m.At m.taken.length m.ct]
structure YearM.In (m:YearM) (w:World) : Prop where
 ins:SliceOf encI 1 w w.heap.size m.Ai m.ins
 taken:SliceOf encE 2 w w.heap.size m.At m.taken
theorem YearM.In.adv {m:YearM} {w w' : World} (h:m.In w) (hb:Below w.heap.size w w') : m.In w':=⟨h.ins.adv hb,h.taken.adv hb⟩
theorem validB_facts {ws:List WageT} (h:validB ws = true) : ws.length≤64∧∀ x ∈ ws,x.code.size≤maxLen:=by
 simp only [validB,Bool.and_eq_true,decide_eq_true_eq] at h
 refine ⟨h.1,fun x hx=>?_⟩
 obtain ⟨i,hi,rfl⟩:=List.mem_iff_getElem.1 hx
 have h2:=h.2 i hi
 simp only [okAt,Bool.and_eq_true] at h2
 exact name_max h2.1.1.1.1
end Go.Proofs.YtlhkojcmcmkmaaaGreat
