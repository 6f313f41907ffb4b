/- Joined texts: AddD P32f P32j. Conditions: as stated. -/
import Derived.Test.YtlhkojcmcmkmaaaGreatJR30b
import Derived.Test.YtlhkojcmcmkmaaaGreatJMix4
import Derived.Test.YtlhkojcmcmkmaaaGreatJBox
namespace Go.Proofs.YtlhkojcmcmkmaaaGreat
open Go.RowKit Go.Sort Go.Shelf Go.Maps
structure ColN (K:List UInt8→Bool) (T:List UInt8→Int) (left:Lit→Bool) (ys:List Elem) : Prop where
 sound:∀ x ∈ ys,K x.code.data.toList = true∧x.amount = T x.code.data.toList∧x.amount ≠ 0∧left (key x.code) = false
 full:∀ c,K c = true→left (.string c) = false→T c ≠ 0→∃ x ∈ ys,x.code.data.toList = c
 nodup:ys.Pairwise (fun a b=>a.code ≠ b.code)
theorem ColN.start {D:DataW Unit} {K:List UInt8→Bool} {T:List UInt8→Int} (h:MapD D K T) : ColN K T (Maps.has D) [] :=
 ⟨by simp,(fun c hc hl=>by rw [h.has c,hc] at hl; cases hl),List.Pairwise.nil⟩
theorem ColN.step {K:List UInt8→Bool} {T:List UInt8→Int} {left:Lit→Bool} {ys:List Elem} (h:ColN K T left ys) {s:ByteArray} {c:Int} (hl:left (key s) = true) (hK:K s.data.toList = true) (hT:T s.data.toList = c) :
  (c ≠ 0→ColN K T (fun z=>left z && !z.sameKey (key s)) (ys++[⟨s,c⟩]))∧(c = 0→ColN K T (fun z=>left z && !z.sameKey (key s)) ys):=by
 have hself:(key s).sameKey (key s) = true:=WideAt.sameKey_self trivial
 have hsound:∀ x ∈ ys,K x.code.data.toList = true∧x.amount = T x.code.data.toList∧x.amount ≠ 0∧(left (key x.code) && !(key x.code).sameKey (key s)) = false:=by
  intro x hx
  obtain ⟨h1,h2,h3,h4⟩:=h.sound x hx
  exact ⟨h1,h2,h3,by simp [h4]⟩
 have hfull:∀ d,K d = true→(left (.string d) && !(Lit.string d).sameKey (key s)) = false→T d ≠ 0→d ≠ s.data.toList→∃ x ∈ ys,x.code.data.toList = d:=by
  intro d hd hld h0 e
  have hne:(Lit.string d).sameKey (key s) = false:=sameKey_ne (fun e'=>e (by simpa [key] using e'))
  rw [hne] at hld
  simp at hld
  exact h.full d hd hld h0
 refine ⟨fun hc=>⟨fun x hx=>?_,fun d hd hld h0=>?_,?_⟩,fun hc=>⟨hsound,fun d hd hld h0=>?_,h.nodup⟩⟩
 ·
  rcases List.mem_append.1 hx with h1 | h1
  ·
   exact hsound x h1
  ·
   simp at h1
   subst h1
   exact ⟨hK,hT.symm,hc,by show (left (key s) && !(key s).sameKey (key s)) = false; rw [hself]; simp⟩
 ·
  by_cases e:d = s.data.toList
  ·
   exact ⟨⟨s,c⟩,by simp,e.symm⟩
  ·
   obtain ⟨x,hx,hxe⟩:=hfull d hd hld h0 e
   exact ⟨x,by simp [hx],hxe⟩
 ·
  rw [List.pairwise_append]
  refine ⟨h.nodup,List.pairwise_singleton _ _,fun a ha' b hb=>?_⟩
  simp at hb
  subst hb
  intro e
  have:=(h.sound a ha').2.2.2
  rw [show key a.code = key s by rw [e],hl] at this
  cases this
 ·
  by_cases e:d = s.data.toList
  ·
   subst e; rw [hT] at h0; exact absurd hc h0
  ·
   exact hfull d hd hld h0 e
theorem ColN.mem {K:List UInt8→Bool} {T:List UInt8→Int} {left:Lit→Bool} {ys:List Elem} (h:ColN K T left ys) (hl : ∀ z,left z = false) (x:Elem) : x ∈ ys ↔ (K x.code.data.toList = true∧x.amount = T x.code.data.toList∧x.amount ≠ 0):=by
 refine ⟨fun hx=>⟨(h.sound x hx).1,(h.sound x hx).2.1,(h.sound x hx).2.2.1⟩,fun ⟨h1,h2,h3⟩=>?_⟩
 obtain ⟨y,hy,hye⟩:=h.full _ h1 (hl _) (by rw [← h2]; exact h3)
 have hyx:y = x:=by
  obtain ⟨_,g2,_⟩:=h.sound y hy
  have hc:y.code = x.code:=key_inj (by simp [key,hye])
  obtain ⟨a,b⟩:=y
  obtain ⟨c,d⟩:=x
  simp only at hc g2 h2
  subst hc
  rw [g2,h2]
 rw [← hyx]; exact hy
set_option maxRecDepth 100000 in
set_option maxHeartbeats 4000000 in
theorem add_anyF (A B : Option Addr) (cap bcap : Nat) (xs ys : List Elem) (w:World) (h:SliceOf encE 2 w w.heap.size A xs) (hz : ∀ x ∈ xs,x.code.size≤maxLen) (hl:xs.length≤9223372036854775806)
  (hy:SliceOf encE 2 w w.heap.size B ys) (hyz:∀ x ∈ ys,x.code.size≤maxLen) (hyl:ys.length≤9223372036854775806) :
  Calls Tryz.prog 110 #[.slice A xs.length cap,.slice B ys.length bcap] w (EPostF (addR xs ys) (addE xs ys) w):=by
 have HZ:=Lib.hid hz; clear hz
 have HYZ:=Lib.hid hyz; clear hyz
 have fail_:∀ (n:Int) (W:World),n ≠ 0→addE xs ys = n→Below w.heap.size w W→EPostF (addR xs ys) (addE xs ys) w (Ending.returned (.tuple #[.slice none 0 0,.int .i64 n])) W :=
  fun n W hn he hb=>EPostF.fail (addR_no (by rw [he]; exact hn)) he hb
 have FAIL:=Lib.hid fail_
 clear fail_
 have hmm:=@run_makeMap Tryz.prog
 go_enter Tryz.func110,Tryz.ntmps110
 go_wp2_with fail
 refine (rec_any A cap xs _ h HZ.out (by omega)).mono ?_
 rintro e w1 ⟨rfl,hb1⟩
 by_cases hr:recB xs = true
 rotate_left
 ·
  have hr':recB xs = false:=by simpa using hr
  clear hr
  go_wp2
  go_ret2
  exact FAIL.out 1 _ (by omega) (addE_1 (.inl hr')) hb1
 have hxl:xs.length≤128:=(recB_iff.1 hr).1
 have HXB:=Lib.hid (recB_iff.1 hr).2.1
 have HXS:=Lib.hid (recB_iff.1 hr).2.2
 go_wp2_with fail
 go_loopw [22] (fun i wr=>∃ k:Nat,k≤ys.length∧i = .int .i64 k∧Hid (∀ j,(hj:j < ys.length)→j < k→addB ys[j] = true)∧Below w.heap.size w wr) (fun i _=>ys.length - (intOf i).toNat)
 case atStart=>exact ⟨0,by omega,rfl,fun j _ hj=>absurd hj (by omega),hb1⟩
 case round =>
  obtain ⟨k,hk,rfl,hall,hbel⟩:=hrel
  have hbs:=hbel.size
  by_cases hlt:k < ys.length
  ·
   obtain ⟨b,off,rfl,hb,hc⟩:=(hy.below hbel).at_ hlt
   have c0:=hc 0 _ rfl
   have c1:=hc 1 _ rfl
   simp only [Nat.add_zero] at c0
   clear hc
   have hzk:=HYZ.out _ (List.getElem_mem hlt)
   have HN:Hid (addB ys[k] = false→addE xs ys = 1):=fun hf=>addE_1 (.inr (by
    rw [List.all_eq_false]
    exact ⟨ys[k],List.getElem_mem _,by simp [hf]⟩))
   by_cases hn:nameB ys[k].code = true
   rotate_left
   ·
    have hn':nameB ys[k].code = false:=by simpa using hn
    clear hn
    go_wp2_with (go_at_call 82; refine (isName_any _ _ hzk).mono ?_; rintro e w' ⟨rfl,rfl⟩)
    go_ret2
    exact FAIL.out 1 _ (by omega) (HN.out (by simp [addB,hn'])) (hbel.alloc hbs _)
   by_cases h1:0≤ys[k].amount
   rotate_left
   ·
    go_wp2_with (go_at_call 82; refine (isName_any _ _ hzk).mono ?_; rintro e w' ⟨rfl,rfl⟩)
    go_ret2
    exact FAIL.out 1 _ (by omega) (HN.out (by simp [addB,inB]; intros; omega)) (hbel.alloc hbs _)
   by_cases h2:ys[k].amount≤1000000000
   rotate_left
   ·
    go_wp2_with (go_at_call 82; refine (isName_any _ _ hzk).mono ?_; rintro e w' ⟨rfl,rfl⟩)
    go_ret2
    exact FAIL.out 1 _ (by omega) (HN.out (by simp [addB,inB]; intros; omega)) (hbel.alloc hbs _)
   go_wp2_with (go_at_call 82; refine (isName_any _ _ hzk).mono ?_; rintro e w' ⟨rfl,rfl⟩)
   go_roundw
   case rel =>
    refine ⟨k+1,by omega,by go_num,fun j hj hjk=>?_,hbel.alloc hbs _⟩
    rcases Nat.lt_or_ge j k with h3 | h3
    ·
     exact hall.out j hj h3
    ·
     obtain rfl:j = k:=by omega
     exact (addB_iff _).2 ⟨hn,h1,h2⟩
   case measure=>simp [intOf]; omega
  ·
   have hya:ys.all addB = true:=by
    rw [List.all_eq_true]
    intro x hx
    obtain ⟨j,hj,rfl⟩:=List.mem_iff_getElem.1 hx
    exact hall.out j hj (by omega)
   have HYA:=Lib.hid hya
   have HYB:Hid (∀ x ∈ ys,0≤x.amount∧x.amount≤1000000000):=fun x hx=>((addB_iff x).1 (List.all_eq_true.1 hya x hx)).2
   clear hya
   by_cases hyl2:128 < ys.length
   ·
    go_wp2
    go_ret2
    exact FAIL.out 3 _ (by omega) (addE_3 hr HYA.out (.inl hyl2)) hbel
   have hyl3:ys.length≤128:=by omega
   obtain ⟨wp,rfl⟩ : ∃ wp:World,wp = wr:=⟨_,rfl⟩
   go_wp2_with fail
   clear hall hk hlt hyl hl hb1
   have hmap0:(wp.alloc (.map #[] 0)).ownsMap Tryz.prog 9 (plainElem (H:=Unit) Tryz.prog 3) wp.heap.size 0 (.map []):=World.ownsMap_made _ _ _ _
   have hbel0:Below w.heap.size w (wp.alloc (.map #[] 0)):=hbel.alloc hbs _
   go_loopw [47] (fun i wr=>∃ (k:Nat) (D:DataW Unit),k≤xs.length∧i = .int .i64 k∧wr.ownsMap Tryz.prog 9 (plainElem (H:=Unit) Tryz.prog 3) wp.heap.size k D∧MapD D (keyE (xs.take k)) (totE (xs.take k))∧Below w.heap.size w wr) (fun i _=>xs.length - (intOf i).toNat)
   case atStart=>exact ⟨0,.map [],by omega,rfl,hmap0,MapD.empty,hbel0⟩
   case round =>
    clear hmap0 hbel0
    obtain ⟨k,D,hk,rfl,hown,hD,hbel3⟩:=hrel
    have hbs3:=hbel3.size
    by_cases hlt:k < xs.length
    ·
     obtain ⟨b,off,rfl,hb,hc⟩:=(h.below hbel3).at_ hlt
     have c0:=hc 0 _ rfl
     have c1:=hc 1 _ rfl
     simp only [Nat.add_zero] at c0
     clear hc
     have hzk:=HZ.out _ (List.getElem_mem hlt)
     have hkey:keyOf Tryz.prog 9 (.string xs[k].code) = some (key xs[k].code):=WideMaps.keyOf_string_mk Tryz.underlying9 hzk
     have hown1:=hown.kept (World.grownBy_alloc wr (Obj.cells #[Value.string xs[k].code,Value.int IntKind.i64 xs[k].amount] 69) none) (by simp)
     have hTb:=totE_bd2 (xs.take k) xs[k].code.data.toList 1000000000000 (by omega) (fun x hx=>(HXB.out x (List.mem_of_mem_take hx)).2)
     have hTl:(xs.take k).length≤128:=by simp; omega
     obtain ⟨_,hxk1,hxk2⟩:=HXB.out _ (List.getElem_mem hlt)
     have hat0:=hD.at_ xs[k].code.data.toList
     have hT1:0≤totE (xs.take k) xs[k].code.data.toList:=hTb.1
     have hT2:totE (xs.take k) xs[k].code.data.toList≤128000000000000:=by omega
     have hD1:=hD.put_ (K':=keyE (xs.take (k+1))) (T':=totE (xs.take (k+1))) xs[k].code (totE (xs.take k) xs[k].code.data.toList+xs[k].amount) (keyE_take xs k hlt) (fun c=>by
      rw [totE_take xs k hlt]
      split
      ·
       rename_i e; rw [← e]
      ·
       omega)
     have HD1:=Lib.hid hD1
     have HAT:=Lib.hid hat0
     generalize totE (xs.take k) xs[k].code.data.toList = t0 at hT1 hT2 HD1 HAT
     clear hTb hTl hat0 hD hD1
     go_wp2_with (first
      | (at_lookup; refine wpList_lookup_own_int _ (by rfl) _ _ 181 (by rfl) 9 3 .i64 lawS Tryz.underlying181 Tryz.underlying3 (zeroI _) wp.heap.size k D (by rfl) hown1 _ _ (by rfl) hkey ?_; intro c hat hwc; obtain rfl:c = t0:=(by have h1:=HAT.out; rw [show Lit.string xs[k].code.data.toList = key xs[k].code from rfl,hat] at h1; injection h1 with h1; injection h1))
      | (at_mapUpdate; refine wpList_mapUpdate_own _ (by rfl) _ _ _ 181 (by rfl) 9 3 lawS Tryz.underlying181 _ wp.heap.size k D (by rfl) hown1 (by unfold maxLen; omega) _ _ _ (by rfl) (by rfl) hkey _ [] (plainElem_int Tryz.underlying3 (wf64 (by omega) (by omega))) ?_; intro w1 hown2 hgrow1))
     go_roundw
     case rel=>exact ⟨k+1,_,by omega,by go_num,hown2,HD1.out,(hbel3.alloc hbs3 _).grown hgrow1 (by simp; omega) (fun g e=>by injection e; omega)⟩
     case measure=>simp [intOf]; omega
    ·
     obtain rfl:k = xs.length:=by omega
     have hg0:decide ((xs.length:Int) < (xs.length:Int)) = false:=by simp
     have hg1:decide (xs.length < xs.length) = false:=by simp
     rw [List.take_length] at hD
     obtain ⟨wq,rfl⟩ : ∃ wq:World,wq = wr:=⟨_,rfl⟩
     go_wp2_with fail
     clear hk hlt
     go_loopw [61] (fun i wr=>∃ (k:Nat) (D:DataW Unit),k≤ys.length∧i = .int .i64 k∧wr.ownsMap Tryz.prog 9 (plainElem (H:=Unit) Tryz.prog 3) wp.heap.size (xs.length+k) D∧MapD D (keyE (xs++ys.take k)) (totE (xs++ys.take k))∧Below w.heap.size w wr) (fun i _=>ys.length - (intOf i).toNat)
     case atStart=>exact ⟨0,D,by omega,rfl,hown,by simpa using hD,hbel3⟩
     case round =>
      clear hown hD hbel3 hbs3
      obtain ⟨k,D,hk,rfl,hown,hD,hbel3⟩:=hrel
      have hbs3:=hbel3.size
      by_cases hlt:k < ys.length
      ·
       obtain ⟨b,off,rfl,hb,hc⟩:=(hy.below hbel3).at_ hlt
       have c0:=hc 0 _ rfl
       have c1:=hc 1 _ rfl
       simp only [Nat.add_zero] at c0
       clear hc
       have hzk:=HYZ.out _ (List.getElem_mem hlt)
       have hkey:keyOf Tryz.prog 9 (.string ys[k].code) = some (key ys[k].code):=WideMaps.keyOf_string_mk Tryz.underlying9 hzk
       have hown1:=hown.kept (World.grownBy_alloc wr (Obj.cells #[Value.string ys[k].code,Value.int IntKind.i64 ys[k].amount] 69) none) (by simp)
       have hTb:=totE_bd2 (xs++ys.take k) ys[k].code.data.toList 1000000000000 (by omega) (fun x hx=>by
        rcases List.mem_append.1 hx with hx | hx
        ·
         exact (HXB.out x hx).2
        ·
         have:=HYB.out x (List.mem_of_mem_take hx); omega)
       have hTl:(xs++ys.take k).length≤256:=by simp; omega
       obtain ⟨hxk1,hxk2⟩:=HYB.out _ (List.getElem_mem hlt)
       have hat0:=hD.at_ ys[k].code.data.toList
       have hT1:0≤totE (xs++ys.take k) ys[k].code.data.toList:=hTb.1
       have hT2:totE (xs++ys.take k) ys[k].code.data.toList≤256000000000000:=by omega
       have hD1:=hD.put_ (K':=keyE (xs++ys.take (k+1))) (T':=totE (xs++ys.take (k+1))) ys[k].code (totE (xs++ys.take k) ys[k].code.data.toList+ys[k].amount) (fun c=>by rw [keyE_append,keyE_append,keyE_take ys k hlt,Bool.or_assoc]) (fun c=>by
        rw [totE_append,totE_append,totE_append,totE_take ys k hlt]
        split
        ·
         rename_i e; rw [← e]; omega
        ·
         omega)
       have HD1:=Lib.hid hD1
       have HAT:=Lib.hid hat0
       generalize totE (xs++ys.take k) ys[k].code.data.toList = t0 at hT1 hT2 HD1 HAT
       clear hTb hTl hat0 hD hD1
       go_wp2_with (first
        | (at_lookup; refine wpList_lookup_own_int _ (by rfl) _ _ 181 (by rfl) 9 3 .i64 lawS Tryz.underlying181 Tryz.underlying3 (zeroI _) wp.heap.size (xs.length+k) D (by rfl) hown1 _ _ (by rfl) hkey ?_; intro c hat hwc; obtain rfl:c = t0:=(by have h1:=HAT.out; rw [show Lit.string ys[k].code.data.toList = key ys[k].code from rfl,hat] at h1; injection h1 with h1; injection h1))
        | (at_mapUpdate; refine wpList_mapUpdate_own _ (by rfl) _ _ _ 181 (by rfl) 9 3 lawS Tryz.underlying181 _ wp.heap.size (xs.length+k) D (by rfl) hown1 (by unfold maxLen; omega) _ _ _ (by rfl) (by rfl) hkey _ [] (plainElem_int Tryz.underlying3 (wf64 (by omega) (by omega))) ?_; intro w1 hown2 hgrow1))
       go_roundw
       case rel=>exact ⟨k+1,_,by omega,by go_num,hown2,HD1.out,(hbel3.alloc hbs3 _).grown hgrow1 (by simp; omega) (fun g e=>by injection e; omega)⟩
       case measure=>simp [intOf]; omega
      ·
       obtain rfl:k = ys.length:=by omega
       have hg0:decide ((ys.length:Int) < (ys.length:Int)) = false:=by simp
       have hg1:decide (ys.length < ys.length) = false:=by simp
       rw [List.take_length] at hD
       obtain ⟨wq,rfl⟩ : ∃ wq:World,wq = wr:=⟨_,rfl⟩
       clear hk hlt
       have hBl:wp.heap.size < wq.heap.size:=by
        obtain ⟨es,clock,hb,_⟩:=hown
        exact (Array.getElem?_eq_some_iff.1 hb).1
       have hsize:Maps.size D≤xs.length+ys.length:=by
        obtain ⟨es,clock,_,_,hn',rfl⟩:=hown
        rw [Maps.size_eq,length_insertAll]
        simpa using hn'
       go_wp2_with (at_range; refine wpList_range_own _ (by rfl) _ 181 (by rfl) 9 3 lawS Tryz.underlying181 (plainElem (H:=Unit) Tryz.prog 3) wp.heap.size (xs.length+ys.length) D (by rfl) hown ?_; intro w0 hrg0 hg0 hs0)
       go_frame
       go_loopw [13,14] (fun v o wr=>∃ left cnt zs,wr.ranges Tryz.prog 9 (plainElem (H:=Unit) Tryz.prog 3) wp.heap.size wq.heap.size (xs.length+ys.length) D left cnt∧Own encE 2 69 wr (wq.heap.size+1) v zs∧o = .bool (anyBig zs)∧ColN (keyE (xs++ys)) (totE (xs++ys)) left zs∧zs.length+cnt≤xs.length+ys.length∧Below wq.heap.size wq wr) (fun _ _ wr=>wr.rangeLeft wp.heap.size wq.heap.size)
       case atStart=>exact ⟨_,_,[],hrg0,Own.nil_ _ _,rfl,ColN.start hD,by simpa using hsize,only_below hg0 (Nat.le_refl _) (by simp)⟩
       case round =>
        have hDD:=Lib.hid hD
        clear hown hD hsize hbs3 hrg0 hg0 hs0
        obtain ⟨left,cnt,zs,hrg,hrow,rfl,hcol,hlen,hbelq⟩:=hrel
        have hbs:=hbelq.size
        have hrs:=hrg.lt
        go_wp2_with (at_next; refine wpList_next_ranges _ (by rfl) _ (by rfl) 9 lawS (plainElem (H:=Unit) Tryz.prog 3) Value.string (Value.int .i64) (fun key kl hk=>by obtain ⟨x,hx,_⟩:=Maps.keyOf_str Tryz.underlying9 hk; exact ⟨_,hx⟩) (fun v y hv=>by obtain ⟨c,hc,_⟩:=plainElem_int_inv Tryz.underlying3 hv; exact ⟨c,hc⟩) wp.heap.size wq.heap.size (xs.length+ys.length) _ _ _ (by rfl) hrg ?_ ?_)
        ·
         intro hc0 hl0
         have hmem:=hcol.mem hl0
         have hperm:zs.Perm (addO xs ys):=perm_of_codes hcol.nodup (sorted_codes (addO_sorted ys HXS.out)) (fun x=>by rw [hmem,mem_addO HXS.out])
         have hany:anyBig (addO xs ys) = anyBig zs:=by
          rw [Bool.eq_iff_iff,anyBig,anyBig,List.any_eq_true,List.any_eq_true]
          exact ⟨fun ⟨x,h1,h2⟩=>⟨x,hperm.mem_iff.2 h1,h2⟩,fun ⟨x,h1,h2⟩=>⟨x,hperm.mem_iff.1 h1,h2⟩⟩
         have hlenp:=hperm.length_eq
         have HNC:=Lib.hid hcol.nodup
         have HP:=Lib.hid hperm
         have HANY:=Lib.hid hany
         have HLP:=Lib.hid hlenp
         have hbelw:=bel_adv hbel3 hbelq
         clear hmem hperm hany hlenp hcol hc0 hl0
         by_cases hbig:128 < zs.length
         ·
          have HER:=Lib.hid (addE_3 (b:=ys) hr HYA.out (.inr (by have:=HLP.out; omega)))
          obtain ⟨A5,c5,rfl,hS5,hB5,hlc5,hcm5⟩:=hrow.form2 encE_len
          go_wp2
          go_ret2
          exact FAIL.out 3 _ (by omega) HER.out hbelw
         ·
          have hbig':zs.length≤128:=by omega
          have HER:=Lib.hid (addE_4 (a:=xs) (b:=ys) hr HYA.out (by omega) (by have:=HLP.out; omega))
          clear hbig
          rcases hov:anyBig zs with _ | _
          rotate_left
          ·
           have HOV:=Lib.hid hov
           clear hov
           obtain ⟨A5,c5,rfl,hS5,hB5,hlc5,hcm5⟩:=hrow.form2 encE_len
           go_wp2
           go_ret2
           exact FAIL.out 4 _ (by omega) (by rw [HER.out,HANY.out,HOV.out]; rfl) hbelw
          ·
           have HE0:Hid (addE xs ys = 0):=by rw [Hid,HER.out,HANY.out,hov]; rfl
           clear hov
           obtain ⟨A5,c5,rfl,hS5,hB5,hlc5,hcm5⟩:=hrow.form2 encE_len
           go_wp2_with fail
           refine (sortE_any A5 c5 (wq.heap.size+1) zs _ hrow (by omega)).mono ?_
           rintro e w6 ⟨rfl,us,hp,hsd,hSz,hb6⟩
           have hlz:=hp.length_eq
           have hus:us = addO xs ys:=sorted_ext (strict_of hsd (HNC.out.perm hp.symm (fun h e=>h e.symm))) (addO_sorted ys HXS.out) (fun x=>by rw [hp.mem_iff,HP.out.mem_iff])
           have HUS:=Lib.hid hus
           have HLZ:=Lib.hid hlz
           clear hlz hus hp hsd
           go_wp2
           go_ret2
           rw [HE0.out,addR_ok HE0.out,← HUS.out]
           exact ⟨A5,c5,by rw [HLZ.out]; rfl,hSz,by have:=HLZ.out; omega,hcm5,(fun a ha=>by have:=hB5 a ha; have:=hbel3.size; omega),bel_adv hbel3 (hbelq.trans (hb6.mono (by omega)))⟩
        ·
         intro s c kl yd yp w2 cnt2 hkey hlk hv hat hrg2 hlt hg2 hs2 hen
         obtain ⟨x',hx',rfl,hxl'⟩:=Maps.keyOf_str Tryz.underlying9 hkey
         have hsx:x' = s.data.toList:=by
          have h1:s = ⟨x'.toArray⟩:=by simpa [encStr] using hx'
          rw [h1]
         subst hsx
         have hyd:yd = i64L c:=by
          obtain ⟨c',h1,h2,_⟩:=plainElem_int_inv Tryz.underlying3 hv
          injection h1 with _ h1
          subst h1
          injection h2
         have hKs:keyE (xs++ys) s.data.toList = true:=by rw [← hDD.out.has]; exact has_true_of_atKey hat
         have hTs:totE (xs++ys) s.data.toList = c:=by
          have h1:=hDD.out.at_ s.data.toList
          rw [hat,hyd] at h1
          injection h1 with h1
          injection h1 with _ h1
          exact h1.symm
         have hlk':left (key s) = true:=hlk
         have hrow2:=hrow.kept hg2 (by intro g e; injection e; omega)
         have hbel2:Below wq.heap.size wq w2:=bel_only hbelq hg2 (by intro g e; injection e; omega)
         have hbs2:=hbel2.size
         have hrs2:=hrg2.lt
         have HST:=Lib.hid (hcol.step hlk' hKs hTs)
         clear hs2 hat hkey hx' hv hyd hTs hcol
         by_cases hc0:c = 0
         ·
          have hn0:(c == 0) = true:=by simp [hc0]
          have hcol2:=HST.out.2 hc0
          clear hc0
          go_wp2_with fail
          go_roundw
          case rel =>
           have hf:∃ left cnt zs',w2.ranges Tryz.prog 9 (plainElem (H:=Unit) Tryz.prog 3) wp.heap.size wq.heap.size (xs.length+ys.length) D left cnt∧Own encE 2 69 w2 (wq.heap.size+1) u13 zs'∧Value.bool (anyBig zs) = .bool (anyBig zs')∧ColN (keyE (xs++ys)) (totE (xs++ys)) left zs'∧zs'.length+cnt≤xs.length+ys.length∧Below wq.heap.size wq w2:=⟨_,_,zs,hrg2,hrow2,rfl,hcol2,by omega,hbel2⟩
           first | exact hf | ((repeat apply Exists.intro); exact ⟨hf,rfl⟩)
          case measure=>rw [hrg2.left_eq,hrg.left_eq]; omega
         ·
          have hn0:(c == 0) = false:=by simp [hc0]
          have hcol2:=HST.out.1 hc0
          have hne:some wp.heap.size ≠ u13.ownBlock:=fun e=>by have:=(hrow2.block_lt e.symm).1; omega
          have hne2:some wq.heap.size ≠ u13.ownBlock:=fun e=>by have:=(hrow2.block_lt e.symm).1; omega
          have hr4:=fun g hg=>(hrow2.block_lt (g:=g) hg).1
          have HAB:=Lib.hid (anyBig_snoc zs ⟨s,c⟩)
          clear hc0
          by_cases hbg:1000000000000 < c
          ·
           have hd1:decide (1000000000000 < c) = true:=by simp [hbg]
           have HB:Hid (anyBig (zs++[⟨s,c⟩]) = true):=by rw [Hid,HAB.out]; simp [big,hbg]
           rcases hbz:anyBig zs with _ | _
           all_goals
            go_wp2_with (at_builtin; (refine wpList_append_one _ _ 51 ⟨s,c⟩ _ 24 _ infoE Tryz.underlying51 hrow2 encE_len (by omega) rfl (encE_one _) (by omega) (by omega) (by omega) (by rfl) (by rfl) (by rfl) (by rfl) (by simp) (by rfl) ?_); intro v2 w6 hown7 hg7)
            go_roundw
            case rel =>
             have hf:∃ left cnt zs',w6.ranges Tryz.prog 9 (plainElem (H:=Unit) Tryz.prog 3) wp.heap.size wq.heap.size (xs.length+ys.length) D left cnt∧Own encE 2 69 w6 (wq.heap.size+1) v2 zs'∧Value.bool true = .bool (anyBig zs')∧ColN (keyE (xs++ys)) (totE (xs++ys)) left zs'∧zs'.length+cnt≤xs.length+ys.length∧Below wq.heap.size wq w6:=⟨_,_,_,hrg2.kept hg7 hne hne2,hown7,by rw [HB.out],hcol2,by simp; omega,bel_only hbel2 hg7 (fun g hg=>by have:=hr4 g hg; omega)⟩
             first | exact hf | ((repeat apply Exists.intro); exact ⟨hf,rfl⟩)
            case measure=>rw [(hrg2.kept hg7 hne hne2).left_eq,hrg.left_eq]; omega
          ·
           have HB:Hid (anyBig (zs++[⟨s,c⟩]) = anyBig zs):=by rw [Hid,HAB.out]; simp [big,hbg]
           rcases hbz:anyBig zs with _ | _
           all_goals
            rw [hbz] at HB
            clear hbz
            go_wp2_with (at_builtin; (refine wpList_append_one _ _ 51 ⟨s,c⟩ _ 24 _ infoE Tryz.underlying51 hrow2 encE_len (by omega) rfl (encE_one _) (by omega) (by omega) (by omega) (by rfl) (by rfl) (by rfl) (by rfl) (by simp) (by rfl) ?_); intro v2 w6 hown7 hg7)
            go_roundw
            case rel =>
             have hf:∃ left cnt zs',w6.ranges Tryz.prog 9 (plainElem (H:=Unit) Tryz.prog 3) wp.heap.size wq.heap.size (xs.length+ys.length) D left cnt∧Own encE 2 69 w6 (wq.heap.size+1) v2 zs'∧Value.bool _ = .bool (anyBig zs')∧ColN (keyE (xs++ys)) (totE (xs++ys)) left zs'∧zs'.length+cnt≤xs.length+ys.length∧Below wq.heap.size wq w6:=⟨_,_,_,hrg2.kept hg7 hne hne2,hown7,by rw [HB.out],hcol2,by simp; omega,bel_only hbel2 hg7 (fun g hg=>by have:=hr4 g hg; omega)⟩
             first | exact hf | ((repeat apply Exists.intro); exact ⟨hf,rfl⟩)
            case measure=>rw [(hrg2.kept hg7 hne hne2).left_eq,hrg.left_eq]; omega
end Go.Proofs.YtlhkojcmcmkmaaaGreat
namespace Go.Proofs.YtlhkojcmcmkmaaaGreat
open Go.RowKit Go.Sort Go.Shelf
def FrE (m:List Elem) (B:Nat) (x:Option Addr × Nat) (w:World) : Prop:=SliceOf encE 2 w w.heap.size x.1 m∧m.length≤x.2∧x.2≤maxLen∧∀ a,x.1 = some a→B≤a.block
set_option maxRecDepth 100000 in
set_option maxHeartbeats 1000000 in
theorem deductP32 {w0:World} {g:Nat} {c:CalF} {s:CalS} {ls:List LineT} {w:World} (h:CalI w0 g c s ls w) (hp:c.p.In w0) (before:Bool) (Y:Option Addr) (yc:Nat) (tk:List Elem) (ht:s.tv = .slice Y tk.length yc) (hY:SliceOf encE 2 w w.heap.size Y tk) (hd:validD c.p.ds = true) (hr:recB tk = true) :
  Calls Tryz.prog 105 #[.pointer (some ⟨g,0,none⟩),.bool before] w (EPostF (takeR c.p.ds before (max s.b.c 0) (max s.left 0) tk) (takeE c.p.ds (max s.b.c 0) (max s.left 0) tk) w):=by
 have HTK:Hid (∀ W,Below w.heap.size w W→Calls Tryz.prog 160 #[.slice c.p.Ad c.p.ds.length c.p.cd,.bool before,.int .i64 (max s.b.c 0),.int .i64 (max s.left 0),.slice Y tk.length yc] W (EPostF (takeR c.p.ds before (max s.b.c 0) (max s.left 0) tk) (takeE c.p.ds (max s.b.c 0) (max s.left 0) tk) W)):=fun W hb =>
  take_anyF c.p.Ad Y c.p.cd yc c.p.ds tk before (max s.b.c 0) (max s.left 0) W ((hp.adv (bel_adv h.bel hb)).ds) (ded_size hd).2 (by have:=(ded_size hd).1; omega) (hY.adv hb) (rec_size hr).2 (by have:=(rec_size hr).1; omega)
 have zz17:w.cell? ⟨g,17,none⟩ = some (.slice c.p.Ad c.p.ds.length c.p.cd):=h.blk.cell 17
 have zz28:w.cell? ⟨g,28,none⟩ = some (.int .i64 s.b.c):=h.blk.cell 28
 have zz33:w.cell? ⟨g,33,none⟩ = some (.int .i64 s.left):=h.blk.cell 33
 have zz36:w.cell? ⟨g,36,none⟩ = some (.slice Y tk.length yc):=by have:w.cell? ⟨g,36,none⟩ = some s.tv:=h.blk.cell 36; rw [this,ht]
 have hlt:=h.lt
 clear h hp hY hd hr ht
 generalize takeR c.p.ds before (max s.b.c 0) (max s.left 0) tk = m at *
 generalize takeE c.p.ds (max s.b.c 0) (max s.left 0) tk = er at *
 go_enter Tryz.func105,Tryz.ntmps105
 go_upto_region 1 with fail
 refine wp_region_call (aE:=?aE1) [0,1,2,3,4,5,6,7,8,9,10,11,12,13,14,15,16,17,18,19,20] [22,23,24,25] 21 160 #[.slice c.p.Ad c.p.ds.length c.p.cd,.bool before,.int .i64 (max s.b.c 0),.int .i64 (max s.left 0),.slice Y tk.length yc] (fun x:Option Addr × Nat=>.tuple #[.slice x.1 m.length x.2,.int .i64 er]) ?aJ1 (FrE m w.heap.size) (by kernel_rfl) (by kernel_rfl) rfl (by kernel_rfl) (by kernel_rfl) (by rfl) (by kernel_rfl) (by kernel_rfl) (by rfl) (by kernel_rfl) (by kernel_rfl) rfl rfl ?H1 ?S1 ?N1 ?R1 ?HC1 ?J1 ?M1
 case H1 =>
  intro F hF inst
  simp only [M3.opsAt,List.getElem?_toArray,List.getElem?_cons_zero,List.getElem?_cons_succ]
  have e17:=BwC.cellB (F:=F) (a:=⟨g,17,none⟩) (by exact hlt) zz17
  have e28:=BwC.cellB (F:=F) (a:=⟨g,28,none⟩) (by exact hlt) zz28
  have e33:=BwC.cellB (F:=F) (a:=⟨g,33,none⟩) (by exact hlt) zz33
  have e36:=BwC.cellB (F:=F) (a:=⟨g,36,none⟩) (by exact hlt) zz36
  repeat (first | go_big_quiet_step (first | fail) | quiet_step (first | fail))
  refine wpQuiet_nil ?_
  rfl
 case S1=>rfl
 case N1=>exact fun _=>by first | rfl | go_simp
 case R1=>exact fun x w1 w2 hx hb=>⟨hx.1.adv hb,hx.2⟩
 case HC1=>exact fun W1 hb1=>(HTK.out W1 hb1).mono (fun e w2 ⟨A,cap,he,h1,h2,h3,h4,h5⟩=>⟨(A,cap),he,h5,h1,h2,h3,fun a ha=>Nat.le_trans hb1.size (h4 a ha)⟩)
 case J1 =>
  intro x F hF inst
  simp only [M3.opsAt,List.getElem?_toArray,List.getElem?_cons_zero,List.getElem?_cons_succ]
  repeat (first | go_big_quiet_step (fail) | quiet_step (fail))
  refine wpQuiet_nil ?_
  rfl
 case M1 =>
  intro x w1 hb1 hx
  try simp only [Act.put,List.setIfInBounds_toArray,List.set_cons_succ,List.set_cons_zero]
  obtain ⟨A,cap⟩:=x
  obtain ⟨x1,x2,x3,x4⟩:=hx
  go_wp2
  go_ret2
  exact ⟨A,cap,rfl,x1,x2,x3,x4,hb1⟩
theorem lst_fresh {w0:World} {g:Nat} {c:CalF} {s:CalS} {ls:List LineT} {w w' : World} {A:Option Addr} {m:List Elem} (h:CalI w0 g c s ls w) (hS:SliceOf encE 2 w' w'.heap.size A m) (hf : ∀ a,A = some a→w.heap.size≤a.block) : Lst encE 2 w' g s.lv A m :=
 Lst.new hS hf h.lt (fun q hq=>(h.row q hq).2)
def BefK (w0:World) (g:Nat) (c:CalF) (s:CalS) (ls:List LineT) (m:List Elem) (w w' : World) : Prop :=
 ∃ v' A cap,CalI w0 g c { s with tv:=.slice c.y.At c.y.taken.length c.y.ct,bv:=.slice A m.length cap,lv:=v',left:=s.left - sumE m } (ls++linesK 3 m) w'∧Mv g s.lv w v' w'∧Lst encE 2 w' g v' A m
set_option maxRecDepth 100000 in
set_option maxHeartbeats 4000000 in
theorem deductBeforeP32 {w0:World} {g:Nat} {c:CalF} {s:CalS} {ls:List LineT} {w:World} (h:CalI w0 g c s ls w) (hp:c.p.In w0) (hy:c.y.In w0) (hd:validD c.p.ds = true) (hr:recB c.y.taken = true) (hls:ls.length≤1000) (l0 : -1000000000000≤s.left) (l1:s.left≤1000000000000)
  (m:List Elem) (er:Int) (hm:m = takeR c.p.ds true (max s.b.c 0) (max s.left 0) c.y.taken) (her:er = takeE c.p.ds (max s.b.c 0) (max s.left 0) c.y.taken) :
  Calls Tryz.prog 53 #[.pointer (some ⟨g,0,none⟩)] w (StepPost w0 er (BefK w0 g c s ls m w)):=by
 have hf:=fun (h0:er = 0)=>take_facts (before:=true) (her.symm.trans h0)
 rw [← hm] at hf
 have HF:Hid (er = 0→(∀ x ∈ m,0≤x.amount∧x.amount≤1000000000000)∧m.length≤128):=fun h0=>by
  obtain ⟨_,b2,_,_,b5⟩:=hf h0
  exact ⟨fun x hx=>by have:=(b2 x hx).2.1; have:=(b2 x hx).2.2; omega,by omega⟩
 have HI:=Lib.hid h
 have HD:Hid (∀ W,CalI w0 g c { s with tv:=.slice c.y.At c.y.taken.length c.y.ct } ls W→Calls Tryz.prog 105 #[.pointer (some ⟨g,0,none⟩),.bool true] W (EPostF m er W)):=fun W hI=>by
  have:=deductP32 hI hp true c.y.At c.y.ct c.y.taken rfl ((hy.adv hI.bel).taken) hd hr
  rw [hm,her]
  exact this
 have z24:w.cell? ⟨g,24,none⟩ = some (.slice c.y.At c.y.taken.length c.y.ct):=h.blk.cell 24
 have z36:w.cell? ⟨g,36,none⟩ = some s.tv:=h.blk.cell 36
 have f36:=h.blk.frozen 36
 clear h hp hy hd hr hf hm her
 go_enter Tryz.func53,Tryz.ntmps53
 go_upto_region 2 with fail
 have hI1:=HI.out.putTv (.slice c.y.At c.y.taken.length c.y.ct)
 have hm1:=Mv.set (w:=w) (v:=s.lv) (g:=g) 36 (.slice c.y.At c.y.taken.length c.y.ct)
 generalize w.setCell ⟨g,36,none⟩ _ = W1 at hI1 hm1 ⊢
 clear z24 z36 f36 HI
 go_wp2_with fail
 refine (HD.out _ hI1).mono ?_
 rintro e w2 ⟨A,cap,rfl,hS,_,_,hfr,hb2⟩
 have hL:=lst_fresh hI1 hS hfr
 have hI2:=hI1.adv hb2
 have hm2:=hm1.trans (Mv.bel hb2)
 clear hI1 hm1 HD hS hfr hb2
 by_cases h0:er = 0
 rotate_left
 ·
  have hne:(er != 0) = true:=by simp [h0]
  have hbel:=hI2.bel
  go_wp2
  go_ret
  exact ⟨rfl,hbel,fun e=>absurd e h0⟩
 ·
  subst h0
  obtain ⟨ha,hl⟩:=HF.out rfl
  have z34:w2.cell? ⟨g,34,none⟩ = some s.bv:=hI2.blk.cell 34
  have f34:=hI2.blk.frozen 34
  go_upto_region 6 with fail
  have hI3:=hI2.putBv (.slice A m.length cap)
  have hm3':=Mv.set (w:=w2) (v:=s.lv) (g:=g) 34 (.slice A m.length cap)
  have hL3:=hL.mv hm3'
  have hm3:=hm2.trans hm3'
  generalize w2.setCell ⟨g,34,none⟩ _ = W3 at hI3 hm3 hL3 ⊢
  clear hI2 hm2 hm3' hL z34 f34
  go_wp2_with fail
  refine (bearP32 hI3 3 A cap m hL3 hls hl (by constructor <;> (show _≤(_:Int)) <;> (simp only; omega)) ha).mono ?_
  rintro e w4 ⟨rfl,v4,hI4,hm4⟩
  have hm5:=hm3.trans hm4
  have hL4:=hL3.mv hm4
  clear hI3 hm3 hL3 ha
  go_wp2
  go_ret
  exact ⟨rfl,hI4.bel,fun _=>⟨v4,A,cap,hI4,hm5,hL4⟩⟩
end Go.Proofs.YtlhkojcmcmkmaaaGreat
namespace Go.Proofs.YtlhkojcmcmkmaaaGreat
open Go.RowKit Go.Sort Go.Shelf
def AftK (w0:World) (g:Nat) (c:CalF) (s:CalS) (ls:List LineT) (rc m : List Elem) (w w' : World) : Prop :=
 ∃ v' A1 c1 A2 c2,CalI w0 g c { s with tv:=.slice A1 rc.length c1,av:=.slice A2 m.length c2,lv:=v',left:=s.left - sumE m } (ls++linesK 8 m) w'∧Mv g s.lv w v' w'∧Lst encE 2 w' g v' A1 rc∧Lst encE 2 w' g v' A2 m
def err2 (a b : Int) : Int:=if a ≠ 0 then a else b
set_option maxRecDepth 100000 in
set_option maxHeartbeats 4000000 in
theorem deductAfterP32 {w0:World} {g:Nat} {c:CalF} {s:CalS} {ls:List LineT} {w:World} (h:CalI w0 g c s ls w) (hp:c.p.In w0) (hy:c.y.In w0) (B:Option Addr) (bc:Nat) (bl:List Elem) (hbv:s.bv = .slice B bl.length bc) (hL:Lst encE 2 w g s.lv B bl) (hbl:bl.length≤128) (hbz : ∀ x ∈ bl,x.code.size≤maxLen)
  (hd:validD c.p.ds = true) (hr:recB c.y.taken = true) (hls:ls.length≤1000) (l0 : -1000000000000≤s.left) (l1:s.left≤1000000000000)
  (rc m:List Elem) (e1 e2:Int) (hrc:rc = addR c.y.taken bl) (he1:e1 = addE c.y.taken bl) (hm:m = takeR c.p.ds false (max s.b.c 0) (max s.left 0) rc) (he2:e2 = takeE c.p.ds (max s.b.c 0) (max s.left 0) rc) :
  Calls Tryz.prog 57 #[.pointer (some ⟨g,0,none⟩)] w (StepPost w0 (err2 e1 e2) (AftK w0 g c s ls rc m w)):=by
 have hf:=fun (h0:e2 = 0)=>take_facts (before:=false) (he2.symm.trans h0)
 rw [← hm] at hf
 have HF:Hid (e2 = 0→(∀ x ∈ m,0≤x.amount∧x.amount≤1000000000000)∧m.length≤128):=fun h0=>by
  obtain ⟨_,b2,_,_,b5⟩:=hf h0
  exact ⟨fun x hx=>by have:=(b2 x hx).2.1; have:=(b2 x hx).2.2; omega,by omega⟩
 have HI:=Lib.hid h
 have HLB:=Lib.hid hL
 have HAD:Hid (∀ W,Below w.heap.size w W→Calls Tryz.prog 110 #[.slice c.y.At c.y.taken.length c.y.ct,.slice B bl.length bc] W (EPostF rc e1 W)):=fun W hb=>by
  rw [hrc,he1]
  exact add_anyF c.y.At B c.y.ct bc c.y.taken bl W (hy.adv (bel_adv h.bel hb)).taken (rec_size hr).2 (by have:=(rec_size hr).1; omega) (hL.sl.adv hb) hbz (by omega)
 have HD:Hid (e1 = 0→∀ W A1 c1 bv',CalI w0 g c { s with tv:=.slice A1 rc.length c1,bv:=bv' } ls W→SliceOf encE 2 W W.heap.size A1 rc→Calls Tryz.prog 105 #[.pointer (some ⟨g,0,none⟩),.bool false] W (EPostF m e2 W)):=fun h0 W A1 c1 bv' hI hS=>by
  have hrr:recB rc = true:=by
   obtain ⟨_,_,k3,k4⟩:=addE_inv (he1.symm.trans h0)
   rw [hrc,k4]; exact k3
  have:=deductP32 hI hp false A1 c1 rc rfl hS hd hrr
  rw [hm,he2]
  exact this
 have zz24:w.cell? ⟨g,24,none⟩ = some (.slice c.y.At c.y.taken.length c.y.ct):=h.blk.cell 24
 have zz34:w.cell? ⟨g,34,none⟩ = some (.slice B bl.length bc):=by have:w.cell? ⟨g,34,none⟩ = some s.bv:=h.blk.cell 34; rw [this,hbv]
 have hlt:=h.lt
 clear h hp hy hd hr hf hm hrc he1 he2 hL hbz hbv
 go_enter Tryz.func57,Tryz.ntmps57
 go_upto_region 1 with fail
 refine wp_region_call (aE:=?aE1) [0,1,2,3,4,5,6,7,8] [10,11,12,13,14] 9 110 #[.slice c.y.At c.y.taken.length c.y.ct,.slice B bl.length bc] (fun x:Option Addr × Nat=>.tuple #[.slice x.1 rc.length x.2,.int .i64 e1]) ?aJ1 (FrE rc w.heap.size) (by kernel_rfl) (by kernel_rfl) rfl (by kernel_rfl) (by kernel_rfl) (by rfl) (by kernel_rfl) (by kernel_rfl) (by rfl) (by kernel_rfl) (by kernel_rfl) rfl rfl ?H1 ?S1 ?N1 ?R1 ?HC1 ?J1 ?M1
 case H1 =>
  intro F hF inst
  simp only [M3.opsAt,List.getElem?_toArray,List.getElem?_cons_zero,List.getElem?_cons_succ]
  have e24:=BwC.cellB (F:=F) (a:=⟨g,24,none⟩) (by exact hlt) zz24
  have e34:=BwC.cellB (F:=F) (a:=⟨g,34,none⟩) (by exact hlt) zz34
  repeat (first | go_big_quiet_step (first | fail) | quiet_step (first | fail))
  refine wpQuiet_nil ?_
  rfl
 case S1=>rfl
 case N1=>exact fun _=>by first | rfl | go_simp
 case R1=>exact fun x w1 w2 hx hb=>⟨hx.1.adv hb,hx.2⟩
 case HC1=>exact fun W1 hb1=>(HAD.out W1 hb1).mono (fun e w2 ⟨A,cap,he,h1,h2,h3,h4,h5⟩=>⟨(A,cap),he,h5,h1,h2,h3,fun a ha=>Nat.le_trans hb1.size (h4 a ha)⟩)
 case J1 =>
  intro x F hF inst
  simp only [M3.opsAt,List.getElem?_toArray,List.getElem?_cons_zero,List.getElem?_cons_succ]
  repeat (first | go_big_quiet_step (fail) | quiet_step (fail))
  refine wpQuiet_nil ?_
  rfl
 case M1 =>
  intro x w1 hb1 hx
  try simp only [Act.put,List.setIfInBounds_toArray,List.set_cons_succ,List.set_cons_zero]
  obtain ⟨A1,cap1⟩:=x
  obtain ⟨hS,_,_,hfr⟩:=hx
  have hL:=lst_fresh HI.out hS hfr
  have hI:=HI.out.adv hb1
  have hm1:=Mv.bel (g:=g) (v:=s.lv) hb1
  clear HI HAD zz24 zz34 hS hfr hb1 HLB
  by_cases h0:e1 = 0
  rotate_left
  ·
   have HE:Hid (err2 e1 e2 = e1):=by rw [Hid,err2,if_pos h0]
   have hne:(e1 != 0) = true:=by simp [h0]
   have hbel:=hI.bel
   go_wp2
   go_ret
   rw [HE.out]
   exact ⟨rfl,hbel,fun e=>absurd e h0⟩
  have HE:Hid (err2 e1 e2 = e2):=by rw [Hid,err2,if_neg (by simp [h0])]
  have HD2:=Lib.hid (HD.out h0)
  subst h0
  rw [HE.out]
  clear HD HE
  have z36:w1.cell? ⟨g,36,none⟩ = some s.tv:=hI.blk.cell 36
  have f36:=hI.blk.frozen 36
  go_upto_region 5 with fail
  have hI1:=hI.putTv (.slice A1 rc.length cap1)
  have hms:=Mv.set (w:=w1) (v:=s.lv) (g:=g) 36 (.slice A1 rc.length cap1)
  have hL1:=hL.mv hms
  have hm2:=hm1.trans hms
  generalize w1.setCell ⟨g,36,none⟩ _ = W5 at hI1 hL1 hm2 ⊢
  clear hI hms hL hm1 z36 f36
  go_wp2_with fail
  refine (HD2.out W5 A1 cap1 s.bv hI1 hL1.sl).mono ?_
  rintro e w6 ⟨A2,cap2,rfl,hS2,_,_,hfr2,hb6⟩
  have hL2:=lst_fresh hI1 hS2 hfr2
  have hI6:=hI1.adv hb6
  have hmb:=Mv.bel (g:=g) (v:=s.lv) hb6
  have hL16:=hL1.mv hmb
  have hm6:=hm2.trans hmb
  clear hI1 hL1 hm2 hS2 hfr2 hb6 hmb HD2
  by_cases h0:e2 = 0
  rotate_left
  ·
   have hne:(e2 != 0) = true:=by simp [h0]
   have hbel:=hI6.bel
   go_wp2
   go_ret
   exact ⟨rfl,hbel,fun e=>absurd e h0⟩
  ·
   subst h0
   obtain ⟨ha,hl⟩:=HF.out rfl
   have z35:w6.cell? ⟨g,35,none⟩ = some s.av:=hI6.blk.cell 35
   have f35:=hI6.blk.frozen 35
   go_upto_region 9 with fail
   have hI7:=hI6.putAv (.slice A2 m.length cap2)
   have hms:=Mv.set (w:=w6) (v:=s.lv) (g:=g) 35 (.slice A2 m.length cap2)
   have hL17:=hL16.mv hms
   have hL27:=hL2.mv hms
   have hm7:=hm6.trans hms
   generalize w6.setCell ⟨g,35,none⟩ _ = W7 at hI7 hL17 hL27 hm7 ⊢
   clear hI6 hms hL16 hL2 hm6 z35 f35
   go_wp2_with fail
   refine (bearP32 hI7 8 A2 cap2 m hL27 hls hl (by constructor <;> (show _≤(_:Int)) <;> (simp only; omega)) ha).mono ?_
   rintro e w8 ⟨rfl,v8,hI8,hm8⟩
   have hm9:=hm7.trans hm8
   have hL18:=hL17.mv hm8
   have hL28:=hL27.mv hm8
   clear hI7 hm7 hL17 hL27 ha
   go_wp2
   go_ret
   exact ⟨rfl,hI8.bel,fun _=>⟨v8,A1,cap1,A2,cap2,hI8,hm9,hL18,hL28⟩⟩
end Go.Proofs.YtlhkojcmcmkmaaaGreat
