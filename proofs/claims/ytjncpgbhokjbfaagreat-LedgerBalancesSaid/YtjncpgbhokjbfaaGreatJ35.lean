/- Joined texts: AddD2 R31c. Conditions: as stated. -/
import Derived.Test.YtjncpgbhokjbfaaGreatJ10
import Derived.Test.YtjncpgbhokjbfaaGreatJ20
import Derived.Test.YtjncpgbhokjbfaaGreatJ21
import Derived.Test.YtjncpgbhokjbfaaGreatJ23
import Derived.Test.YtjncpgbhokjbfaaGreatJ25
namespace Go.Proofs.YtjncpgbhokjbfaaGreat
open Go.RowKit
theorem filter_take_yes (l:List Elem) (k:Nat) (h:k < l.length) (hn:nz l[k] = true) : (l.take (k+1)).filter nz = (l.take k).filter nz++[l[k]]:=by
 rw [List.take_succ_eq_append_getElem h,List.filter_append]; simp [hn]
theorem filter_take_no (l:List Elem) (k:Nat) (h:k < l.length) (hn:nz l[k] = false) : (l.take (k+1)).filter nz = (l.take k).filter nz:=by
 rw [List.take_succ_eq_append_getElem h,List.filter_append]; simp [hn]
set_option maxRecDepth 100000 in
set_option maxHeartbeats 4000000 in
theorem add27_any (A B : Option Addr) (cap bcap : Nat) (xs ys : List Elem) (w:World) (h:SliceOf encE 2 w w.heap.size A xs) (hz : ∀ x ∈ xs,x.code.size≤maxLen) (hl:xs.length≤9223372036854775806)
  (hy:SliceOf encE 2 w w.heap.size B ys) (hyz:∀ x ∈ ys,x.code.size≤maxLen) (hyl:ys.length≤9223372036854775806) :
  Calls Tryz.prog 60 #[.slice A xs.length cap,.slice B ys.length bcap] w (EPost (addR xs ys) (addE xs ys) w):=by
 have HZ:=Lib.hid hz; clear hz
 have HYZ:=Lib.hid hyz; clear hyz
 have fail_:∀ (n:Int) (W:World),n ≠ 0→addE xs ys = n→Below w.heap.size w W→EPost (addR xs ys) (addE xs ys) w (Ending.returned (.tuple #[.slice none 0 0,.int .i64 n])) W :=
  fun n W hn he hb=>EPost.fail (addR_no (by rw [he]; exact hn)) he hb
 have FAIL:=Lib.hid fail_
 clear fail_
 go_enter Tryz.func60,Tryz.ntmps60
 go_wp2_with fail
 refine (rec27_any A cap xs _ h HZ.out (by omega)).mono ?_
 rintro e w1 ⟨rfl,hb1⟩
 by_cases hr:recB xs = true
 rotate_left
 ·
  have hr':recB xs = false:=by simpa using hr
  clear hr
  go_wp2
  go_ret2
  exact FAIL.out 1 _ (by omega) (addE_1 (.inl hr')) hb1
 have hxl:xs.length≤128:=(recB_iff.1 hr).1
 have HXB:=Lib.hid (recB_iff.1 hr).2.1
 have HRR:=Lib.hid hr
 go_wp2_with fail
 go_loopw [6] (fun i wr=>∃ k:Nat,k≤ys.length∧i = .int .i64 k∧Hid (∀ j,(hj:j < ys.length)→j < k→addB ys[j] = true)∧Below w.heap.size w wr) (fun i _=>ys.length - (intOf i).toNat)
 case atStart=>exact ⟨0,by omega,rfl,fun j _ hj=>absurd hj (by omega),hb1⟩
 case round =>
  obtain ⟨k,hk,rfl,hall,hbel⟩:=hrel
  have hbs:=hbel.size
  by_cases hlt:k < ys.length
  ·
   obtain ⟨b,off,rfl,hb,hc⟩:=(hy.below hbel).at_ hlt
   have c0:=hc 0 _ rfl
   have c1:=hc 1 _ rfl
   simp only [Nat.add_zero] at c0
   clear hc
   have hzk:=HYZ.out _ (List.getElem_mem hlt)
   have HN:Hid (addB ys[k] = false→addE xs ys = 1):=fun hf=>addE_1 (.inr (by
    rw [List.all_eq_false]
    exact ⟨ys[k],List.getElem_mem _,by simp [hf]⟩))
   go_wp2_with fail
   refine (isName17_any _ _ hzk).mono ?_
   rintro e w2 ⟨rfl,hb2⟩
   have hbel2:=below_size hbel hb2 hbs
   have c1':=(hb2.cell (p:=⟨b,off+k * 2+1,none⟩) (by show b < wr.heap.size; omega)).trans c1
   have hbw2:b < w2.heap.size:=by have:=hb2.size; omega
   clear c0 c1
   by_cases hn:nameB ys[k].code = true
   rotate_left
   ·
    have hn':nameB ys[k].code = false:=by simpa using hn
    clear hn
    go_wp2
    go_ret2
    exact FAIL.out 1 _ (by omega) (HN.out (by simp [addB,hn'])) hbel2
   by_cases h1:inB ys[k].amount 1000000000 = true
   rotate_left
   ·
    have h1':inB ys[k].amount 1000000000 = false:=by simpa using h1
    clear h1
    go_wp2_with (go_at_call 93; refine (in_any _ _ _).mono ?_; rintro e w' ⟨rfl,rfl⟩)
    go_ret2
    exact FAIL.out 1 _ (by omega) (HN.out (by simp [addB,h1'])) hbel2
   go_wp2_with (go_at_call 93; refine (in_any _ _ _).mono ?_; rintro e w' ⟨rfl,rfl⟩)
   go_roundw
   case rel =>
    refine ⟨k+1,by omega,by go_num,fun j hj hjk=>?_,hbel2⟩
    rcases Nat.lt_or_ge j k with h3 | h3
    ·
     exact hall.out j hj h3
    ·
     obtain rfl:j = k:=by omega
     simp [addB,hn,h1]
   case measure=>simp [intOf]; omega
  ·
   have hya:ys.all addB = true:=by
    rw [List.all_eq_true]
    intro x hx
    obtain ⟨j,hj,rfl⟩:=List.mem_iff_getElem.1 hx
    exact hall.out j hj (by omega)
   have HYA:=Lib.hid hya
   have HYB:Hid (∀ x ∈ ys,0≤x.amount∧x.amount≤1000000000):=fun x hx=>((addB_iff x).1 (List.all_eq_true.1 hya x hx)).2
   clear hya
   by_cases hyl2:128 < ys.length
   ·
    go_wp2
    go_ret2
    exact FAIL.out 3 _ (by omega) (addE_3 HRR.out HYA.out (.inl hyl2)) hbel
   have hyl3:ys.length≤128:=by omega
   obtain ⟨wp,rfl⟩ : ∃ wp:World,wp = wr:=⟨_,rfl⟩
   clear hall hyl hl hb1 hr
   have hlit:=Own.lit encE_len wp ([] : List Elem) #[] 109 rfl (by simp) (Nat.le_refl _)
   have hS2:=(h.adv hbel).advA (.cells #[] 109)
   go_wp2_with (at_builtin; (refine wpList_append_list (ys:=xs) _ _ 79 _ 24 _ infoE Tryz.underlying79 hlit hS2 encE_len (by omega) rfl encE_one (by simp; omega) (by omega) (by simp) (by rfl) (by rfl) (by rfl) (by rfl) (by rfl) ?_); intro v3 w3 hown3 hg3)
   have hown3':Own encE 2 109 w3 wp.heap.size v3 xs:=by simpa using hown3
   have hsl3:=hown3'.slE
   have hbel3:=bel_adv hbel (fresh_below hg3)
   clear hown3 hown3' hg3 hlit hS2 hk hlt
   go_loopw [7,8] (fun v i wr=>∃ k:Nat,k≤ys.length∧i = .int .i64 k∧SlE wr v ((ys.take k).foldl put xs)∧Hid (Bdd (1000000000000+k * 1000000000) ((ys.take k).foldl put xs))∧Below w.heap.size w wr) (fun _ i _=>ys.length - (intOf i).toNat)
   case atStart=>exact ⟨0,by omega,rfl,hsl3,fun x hx=>by have:=HXB.out x hx; omega,hbel3⟩
   case round =>
    clear hsl3 hbel3
    obtain ⟨k,hk,rfl,hsl,hbd,hbel3⟩:=hrel
    have hbs3:=hbel3.size
    have hfl:((ys.take k).foldl put xs).length≤256:=by
     have:=foldl_put_length (ys.take k) xs
     have:(ys.take k).length≤128:=by simp; omega
     omega
    by_cases hlt:k < ys.length
    ·
     obtain ⟨b,off,rfl,hb,hc⟩:=(hy.below hbel3).at_ hlt
     have c0:=hc 0 _ rfl
     have c1:=hc 1 _ rfl
     simp only [Nat.add_zero] at c0
     clear hc
     have HT:Hid ((ys.take (k+1)).foldl put xs = put ((ys.take k).foldl put xs) ys[k]):=by
      rw [Hid,List.take_succ_eq_append_getElem hlt,List.foldl_append]; rfl
     obtain ⟨q1,q2⟩:=HYB.out _ (List.getElem_mem hlt)
     have HBN:=Lib.hid (Bdd.put (e:=ys[k]) (C:=1000000000) hbd.out (by omega) (by omega) (by omega) (by omega))
     generalize (ys.take k).foldl put xs = ms at hsl hbd hfl HT HBN
     obtain ⟨A5,c5,rfl,hS5,hlc5,hcm5⟩:=hsl
     go_wp2_with fail
     refine (put_any A5 c5 ms ys[k] _ hS5 hlc5 hcm5 (by omega) (fun x hx=>by have:=hbd.out x hx; omega) (by omega) (by omega)).mono ?_
     rintro e w8 ⟨v8,rfl,hown8,hb8⟩
     go_wp2
     go_roundw
     case rel =>
      refine ⟨k+1,by omega,by go_num,by rw [HT.out]; exact hown8.slE,?_,bel_adv hbel3 hb8⟩
      intro x hx
      rw [HT.out] at hx
      have:=HBN.out x hx
      omega
     case measure=>simp [intOf]; omega
    ·
     obtain rfl:k = ys.length:=by omega
     have hg0:decide ((ys.length:Int) < (ys.length:Int)) = false:=by simp
     have hg1:decide (ys.length < ys.length) = false:=by simp
     rw [List.take_length] at hsl hfl hbd
     have HADD:Hid (addO xs ys = (ys.foldl put xs).filter nz):=rfl
     generalize ys.foldl put xs = ms at hsl hfl hbd HADD
     obtain ⟨A5,c5,rfl,hS5,hlc5,hcm5⟩:=hsl
     obtain ⟨wq,rfl⟩ : ∃ wq:World,wq = wr:=⟨_,rfl⟩
     go_wp2_with fail
     clear hk hlt hbd hy
     go_loopw [9,10] (fun v i wr=>∃ k:Nat,k≤ms.length∧i = .int .i64 k∧Own encE 2 109 wr wq.heap.size v ((ms.take k).filter nz)∧Below wq.heap.size wq wr) (fun _ i _=>ms.length - (intOf i).toNat)
     case atStart=>exact ⟨0,by omega,rfl,Own.nil_ _ _,Below.refl _ _⟩
     case round =>
      obtain ⟨k,hk,rfl,hown,hbq⟩:=hrel
      have hbqs:=hbq.size
      by_cases hlt:k < ms.length
      ·
       obtain ⟨b,off,rfl,hb,hc⟩:=(hS5.adv hbq).at_ hlt
       have c0:=hc 0 _ rfl
       have c1:=hc 1 _ rfl
       simp only [Nat.add_zero] at c0
       clear hc
       have hfk:((ms.take k).filter nz).length≤256:=Nat.le_trans (List.length_filter_le _ _) (by simp; omega)
       by_cases h0:ms[k].amount = 0
       ·
        have h0':(ms[k].amount == 0) = true:=by simpa using h0
        have h0'':(ms[k].amount != 0) = false:=by simpa using h0
        have HT:=Lib.hid (filter_take_no ms k hlt (by simp [nz,h0]))
        clear h0
        go_wp2
        go_roundw
        case rel=>exact ⟨k+1,by omega,by go_num,by rw [HT.out]; exact hown,hbq⟩
        case measure=>simp [intOf]; omega
       ·
        have h0':(ms[k].amount == 0) = false:=by simpa using h0
        have h0'':(ms[k].amount != 0) = true:=by simpa using h0
        have HT:=Lib.hid (filter_take_yes ms k hlt (by simp [nz,h0]))
        have hr7:=fun g hg=>(hown.block_lt (g:=g) hg).1
        clear h0
        go_wp2_with (at_builtin; (refine wpList_append_one _ _ 79 ⟨ms[k].code,ms[k].amount⟩ _ 24 _ infoE Tryz.underlying79 hown encE_len (by omega) rfl (encE_one _) (by omega) (by omega) (by omega) (by rfl) (by rfl) (by rfl) (by rfl) (by simp) (by rfl) ?_); intro v8 w8 hown8 hg8)
        go_roundw
        case rel=>exact ⟨k+1,by omega,by go_num,by rw [HT.out]; exact hown8,bel_only hbq hg8 hr7⟩
        case measure=>simp [intOf]; omega
      ·
       rw [List.take_of_length_le (by omega)] at hown
       have HADD2:=HADD.out
       have hol:(ms.filter nz).length≤256:=Nat.le_trans (List.length_filter_le _ _) (by omega)
       rw [← HADD2] at hown hol
       clear HADD2 HADD hS5
       obtain ⟨A6,c6,rfl,hS6,hB6,hlc6,hcm6⟩:=hown.form2 encE_len
       have HE3:=Lib.hid (fun hh=>addE_3 (a:=xs) (b:=ys) HRR.out HYA.out (.inr hh))
       have HE4:=Lib.hid (fun hh=>addE_4 (a:=xs) (b:=ys) HRR.out HYA.out (by omega) hh)
       have HOUT:Hid (addE xs ys = 0→addR xs ys = addO xs ys):=addR_ok
       generalize addO xs ys = os at hown hol hS6 hlc6 HE3 HE4 HOUT ⊢
       by_cases hbig:128 < os.length
       ·
        have HER:=Lib.hid (HE3.out hbig)
        go_wp2
        go_ret2
        exact FAIL.out 3 _ (by omega) HER.out (bel_adv hbel3 hbq)
       have hbig':os.length≤128:=by omega
       have HER:=Lib.hid (HE4.out hbig)
       obtain ⟨wz,rfl⟩ : ∃ wz:World,wz = wr:=⟨_,rfl⟩
       go_wp2_with fail
       clear hbig HE3 HE4 hlt hk
       go_loopw [11] (fun i wr=>∃ k:Nat,k≤os.length∧i = .int .i64 k∧Hid (∀ j,(hj:j < os.length)→j < k→big os[j] = false)∧wr = wz) (fun i _=>os.length - (intOf i).toNat)
       case atStart=>exact ⟨0,by omega,rfl,fun j _ hj=>absurd hj (by omega),rfl⟩
       case round =>
        obtain ⟨k,hk,rfl,hall,rfl⟩:=hrel
        by_cases hlt:k < os.length
        ·
         obtain ⟨b,off,rfl,hb,hc⟩:=hS6.at_ hlt
         have c1:=hc 1 _ rfl
         clear hc
         by_cases hbg:1000000000000 < os[k].amount
         ·
          have HAB:Hid (anyBig os = true):=List.any_eq_true.2 ⟨os[k],List.getElem_mem _,by simp [big,hbg]⟩
          go_wp2
          go_ret2
          exact FAIL.out 4 _ (by omega) (by rw [HER.out,HAB.out]; rfl) (bel_adv hbel3 hbq)
         ·
          go_wp2
          go_roundw
          case rel =>
           refine ⟨k+1,by omega,by go_num,fun j hj hjk=>?_,by first | rfl | trivial⟩
           rcases Nat.lt_or_ge j k with h3 | h3
           ·
            exact hall.out j hj h3
           ·
            obtain rfl:j = k:=by omega
            simp [big]; omega
          case measure=>simp [intOf]; omega
        ·
         have HAB:Hid (anyBig os = false):=by
          rw [Hid,anyBig,List.any_eq_false]
          intro x hx
          obtain ⟨j,hj,rfl⟩:=List.mem_iff_getElem.1 hx
          simp [hall.out j hj (by omega)]
         have HE0:Hid (addE xs ys = 0):=by rw [Hid,HER.out,HAB.out]; rfl
         go_wp2
         go_ret2
         rw [HE0.out,HOUT.out HE0.out]
         exact ⟨A6,c6,rfl,hS6,hlc6,hcm6,bel_adv hbel3 hbq⟩
end Go.Proofs.YtjncpgbhokjbfaaGreat
namespace Go.Proofs.YtjncpgbhokjbfaaGreat
open Go.RowKit
def nkTo (l:List OrdT) (priv:Bool) (last:Int × Int) (k:Nat) : Int × Int:=(l.take k).foldl (stepK priv last) (10,0)
theorem nkTo_succ {l:List OrdT} {priv:Bool} {last:Int × Int} {k:Nat} (h:k < l.length) : nkTo l priv last (k+1) = stepK priv last (nkTo l priv last k) l[k]:=by
 rw [nkTo,List.take_succ_eq_append_getElem h,List.foldl_append]; rfl
theorem nkTo_all (l:List OrdT) (priv:Bool) (last:Int × Int) : nkTo l priv last l.length = nextK l priv last:=by rw [nkTo,List.take_length]; rfl
theorem stepK_yes {priv:Bool} {last p : Int × Int} {o:OrdT} (h:elig priv o = true) (h1:keyLt last (o.rank,o.day)) (h2:keyLt (o.rank,o.day) p) : stepK priv last p o = (o.rank,o.day):=by rw [stepK,if_pos ⟨h,h1,h2⟩]
theorem stepK_no {priv:Bool} {last p : Int × Int} {o:OrdT} (h:elig priv o = false ∨ ¬ keyLt last (o.rank,o.day) ∨ ¬ keyLt (o.rank,o.day) p) : stepK priv last p o = p:=by
 rw [stepK,if_neg]
 rintro ⟨a,b,c⟩
 rcases h with h | h | h
 ·
  rw [h] at a; cases a
 ·
  exact h b
 ·
  exact h c
def grpTo (l:List OrdT) (key:Int × Int) (k:Nat) : List OrdT:=(l.take k).filter (inGrp key)
theorem grpTo_yes {l:List OrdT} {key:Int × Int} {k:Nat} (h:k < l.length) (hg:inGrp key l[k] = true) : grpTo l key (k+1) = grpTo l key k++[l[k]]:=by
 rw [grpTo,List.take_succ_eq_append_getElem h,List.filter_append,grpTo]; simp [hg]
theorem grpTo_no {l:List OrdT} {key:Int × Int} {k:Nat} (h:k < l.length) (hg:inGrp key l[k] = false) : grpTo l key (k+1) = grpTo l key k:=by
 rw [grpTo,List.take_succ_eq_append_getElem h,List.filter_append,grpTo]; simp [hg]
theorem grpTo_all (l:List OrdT) (key:Int × Int) : grpTo l key l.length = l.filter (inGrp key):=by rw [grpTo,List.take_length]
theorem grpTo_len (l:List OrdT) (key:Int × Int) (k:Nat) : (grpTo l key k).length≤(l.filter (inGrp key)).length:=by
 have e:=congrArg (List.filter (inGrp key)) (List.take_append_drop k l)
 rw [List.filter_append] at e
 have:=congrArg List.length e
 rw [List.length_append] at this
 unfold grpTo
 omega
theorem grp_lt {l:List OrdT} {key:Int × Int} {k:Nat} (h:k < l.length) (hg:inGrp key l[k] = true) : (grpTo l key k).length < (l.filter (inGrp key)).length:=by
 have h1:=grpTo_len l key (k+1)
 rw [grpTo_yes h hg] at h1
 simp at h1
 omega
theorem putsG_snoc (o:OrdT) (p:Int) : ∀ (os:List OrdT) (ps:List Int) (out:List Elem),os.length = ps.length→putsG out (os++[o]) (ps++[p]) = putO (putsG out os ps) o p
 | [],[],out,_=>rfl
 | [],_ :: _,_,h=>by simp at h
 | _ :: _,[],_,h=>by simp at h
 | x :: os,q :: ps,out,h=>by
  rw [List.cons_append,List.cons_append,putsG,putsG]
  exact putsG_snoc o p os ps _ (by simpa using h)
structure SrvAt (l:List OrdT) (S0 left0 : Int) (out:List Elem) (left taken : Int) : Prop where
 pos:∀ x ∈ out,0≤x.amount
 code:∀ x ∈ out,∃ o ∈ l,x.code = o.id
 sorted:SortedE out
 sum:sumE out = S0+taken
 tl:taken+left = left0
 t0:0≤taken
 l0:0≤left
theorem SrvAt.step {l:List OrdT} {S0 left0 : Int} {out:List Elem} {left taken : Int} (h:SrvAt l S0 left0 out left taken) {o:OrdT} (ho:o ∈ l) {p:Int} (p0:0≤p) (p1:p≤left) : SrvAt l S0 left0 (putO out o p) (left - p) (taken+p):=by
 have hA:AtOk l out.length out:=⟨h.pos,h.code,Nat.le_refl _⟩
 have hB:=hA.putO ho p
 have h1:=h.sum
 have h2:=h.tl
 have h3:=h.t0
 exact ⟨hB.pos,hB.code,sortedE_putO h.sorted o p,by rw [sumE_putO _ _ p0]; omega,by omega,by omega,by omega⟩
theorem SrvAt.len {l:List OrdT} {S0 left0 : Int} {out:List Elem} {left taken : Int} (h:SrvAt l S0 left0 out left taken) (hl:l.length≤16) : out.length≤16:=Nat.le_trans (nodup_len h.sorted h.code) hl
theorem SrvAt.amt {l:List OrdT} {S0 left0 : Int} {out:List Elem} {left taken : Int} (h:SrvAt l S0 left0 out left taken) (hS:S0≤1000000000) (hL:left0≤1000000000) : ∀ x ∈ out,-1000000000000000≤x.amount∧x.amount≤1000000000000000:=fun x hx=>by
 have h0:=h.pos x hx
 have h1:=(sumE_mem h.pos).2 x hx
 have h2:=h.sum
 have h3:=h.tl
 have h4:=h.l0
 omega
theorem take_snoc (P:List Int) (j:Nat) (h:j < P.length) : P.take (j+1) = P.take j++[P.getD j 0]:=by
 rw [List.take_succ_eq_append_getElem h,List.getD_eq_getElem?_getD,List.getElem?_eq_getElem h]; rfl
theorem sum_take_le {P:List Int} (h : ∀ x ∈ P,0≤x) (j:Nat) : 0≤sumI (P.take j)∧sumI (P.take j)≤sumI P:=by
 have key:∀ Q:List Int,(∀ x ∈ Q,0≤x)→0≤sumI Q:=fun Q hQ=>(sumI_bd (l:=Q) (B:=sumI Q) (fun x hx=>⟨hQ x hx,sumI_mem hQ hx⟩)).1
 have e:=congrArg sumI (List.take_append_drop j P)
 rw [sumI_append] at e
 have h1:=key (P.take j) (fun x hx=>h x (List.mem_of_mem_take hx))
 have h2:=key (P.drop j) (fun x hx=>h x (List.mem_of_mem_drop hx))
 omega
def SlI (wr:World) (v:Value) (m:List Int) : Prop:=∃ A c,v = .slice A m.length c∧SliceOf encI 1 wr wr.heap.size A m
structure SrvL (l:List OrdT) (key:Int × Int) (P:List Int) (out:List Elem) (left taken : Int) (k j : Nat) (o:List Elem) (lf tk : Int) : Prop where
 hj:j = (grpTo l key k).length
 ho:o = putsG out (grpTo l key k) (P.take j)
 hlf:lf = left - sumI (P.take j)
 htk:tk = taken+sumI (P.take j)
section
variable {l:List OrdT} {key:Int × Int} {P:List Int} {out o:List Elem} {left taken lf tk:Int} {k j:Nat}
theorem SrvL.start : SrvL l key P out left taken 0 0 out left taken:=⟨rfl,by cases P <;> rfl,by simp [sumI],by simp [sumI]⟩
theorem SrvL.no (h:SrvL l key P out left taken k j o lf tk) (hk:k < l.length) (hg:inGrp key l[k] = false) : SrvL l key P out left taken (k+1) j o lf tk:=by
 have e:=grpTo_no hk hg
 exact ⟨by rw [e]; exact h.hj,by rw [e]; exact h.ho,h.hlf,h.htk⟩
theorem SrvL.lt (h:SrvL l key P out left taken k j o lf tk) (hP:P.length = (l.filter (inGrp key)).length) (hk:k < l.length) (hg:inGrp key l[k] = true) : j < P.length:=by
 rw [hP,h.hj]; exact grp_lt hk hg
theorem SrvL.yes (h:SrvL l key P out left taken k j o lf tk) (hP:P.length = (l.filter (inGrp key)).length) (hk:k < l.length) (hg:inGrp key l[k] = true) :
  SrvL l key P out left taken (k+1) (j+1) (putO o l[k] (P.getD j 0)) (lf - P.getD j 0) (tk+P.getD j 0):=by
 have hj:=h.lt hP hk hg
 have e:=grpTo_yes hk hg
 have s:=sumI_takeD P j hj
 have hl:(P.take j).length = j:=by rw [List.length_take]; omega
 refine ⟨by rw [e,List.length_append,← h.hj]; rfl,?_,by rw [s]; have:=h.hlf; omega,by rw [s]; have:=h.htk; omega⟩
 rw [e,take_snoc P j hj,putsG_snoc _ _ _ _ _ (by rw [hl]; exact h.hj.symm),← h.ho]
theorem SrvL.bd (h:SrvL l key P out left taken k j o lf tk) (hP : ∀ x ∈ P,0≤x) (hs:sumI P≤left) (hj:j < P.length) : 0≤P.getD j 0∧P.getD j 0≤lf:=by
 have h1:=sum_take_le hP (j+1)
 rw [sumI_takeD P j hj] at h1
 have:=h.hlf
 exact ⟨getD_nonneg hP j,by omega⟩
theorem SrvL.done (h:SrvL l key P out left taken l.length j o lf tk) (hP:P.length = (l.filter (inGrp key)).length) : o = putsG out (l.filter (inGrp key)) P∧lf = left - sumI P∧tk = taken+sumI P:=by
 have hj:=h.hj
 rw [grpTo_all,← hP] at hj
 have e:P.take j = P:=by rw [hj,List.take_length]
 have h1:=h.ho
 have h2:=h.hlf
 have h3:=h.htk
 rw [e] at h1 h2 h3
 rw [grpTo_all] at h1
 exact ⟨h1,h2,h3⟩
end
end Go.Proofs.YtjncpgbhokjbfaaGreat
