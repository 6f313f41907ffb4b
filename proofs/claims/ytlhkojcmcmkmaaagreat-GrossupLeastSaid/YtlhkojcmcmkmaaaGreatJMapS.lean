/- Joined texts: MapS Plain Merge Of OfEq P32e. Conditions: as stated. -/
import Derived.Maps.RangeWalk
import Derived.Maps.OwnOps
import Derived.Maps.Ext
import Derived.Sort.KeysCollected
import Derived.Test.YtlhkojcmcmkmaaaGreatJR30b
import Derived.Test.YtlhkojcmcmkmaaaGreatJMix4
import Derived.Test.YtlhkojcmcmkmaaaGreatJBox
import Derived.Test.YtlhkojcmcmkmaaaGreatJP32g
namespace Go.Proofs.YtlhkojcmcmkmaaaGreat
open Go.RowKit Go.Sort Go.Shelf Go.Maps
structure Col (K:List UInt8→Bool) (T:List UInt8→Int) (left:Lit→Bool) (ys:List Elem) : Prop where
 sound:∀ x ∈ ys,K x.code.data.toList = true∧x.amount = T x.code.data.toList∧x.amount ≠ 0∧left (key x.code) = false
 full:∀ c,K c = true→left (.string c) = false→amtB (T c) = true∧(T c ≠ 0→∃ x ∈ ys,x.code.data.toList = c)
 nodup:ys.Pairwise (fun a b=>a.code ≠ b.code)
theorem Col.start {D:DataW Unit} {K:List UInt8→Bool} {T:List UInt8→Int} (h:MapD D K T) : Col K T (Maps.has D) [] :=
 ⟨by simp,(fun c hc hl=>by rw [h.has c,hc] at hl; cases hl),List.Pairwise.nil⟩
theorem Col.step {K:List UInt8→Bool} {T:List UInt8→Int} {left:Lit→Bool} {ys:List Elem} (h:Col K T left ys) {s:ByteArray} {c:Int} (hl:left (key s) = true) (hK:K s.data.toList = true) (hT:T s.data.toList = c) (ha:amtB c = true) :
  (c ≠ 0→Col K T (fun z=>left z && !z.sameKey (key s)) (ys++[⟨s,c⟩]))∧(c = 0→Col K T (fun z=>left z && !z.sameKey (key s)) ys):=by
 have hself:(key s).sameKey (key s) = true:=WideAt.sameKey_self trivial
 have hsound:∀ x ∈ ys,K x.code.data.toList = true∧x.amount = T x.code.data.toList∧x.amount ≠ 0∧(left (key x.code) && !(key x.code).sameKey (key s)) = false:=by
  intro x hx
  obtain ⟨h1,h2,h3,h4⟩:=h.sound x hx
  exact ⟨h1,h2,h3,by simp [h4]⟩
 have hfull:∀ d,K d = true→(left (.string d) && !(Lit.string d).sameKey (key s)) = false→(amtB (T d) = true∧(T d ≠ 0→d ≠ s.data.toList→∃ x ∈ ys,x.code.data.toList = d)):=by
  intro d hd hld
  by_cases e:d = s.data.toList
  ·
   subst e
   exact ⟨by rw [hT]; exact ha,fun _ h=>absurd rfl h⟩
  ·
   have hne:(Lit.string d).sameKey (key s) = false:=sameKey_ne (fun e'=>e (by simpa [key] using e'))
   rw [hne] at hld
   simp at hld
   obtain ⟨g1,g2⟩:=h.full d hd hld
   exact ⟨g1,fun h0 _=>g2 h0⟩
 refine ⟨fun hc=>⟨fun x hx=>?_,fun d hd hld=>?_,?_⟩,fun hc=>⟨hsound,fun d hd hld=>?_,h.nodup⟩⟩
 ·
  rcases List.mem_append.1 hx with h1 | h1
  ·
   exact hsound x h1
  ·
   simp at h1
   subst h1
   exact ⟨hK,hT.symm,hc,by show (left (key s) && !(key s).sameKey (key s)) = false; rw [hself]; simp⟩
 ·
  obtain ⟨g1,g2⟩:=hfull d hd hld
  refine ⟨g1,fun h0=>?_⟩
  by_cases e:d = s.data.toList
  ·
   exact ⟨⟨s,c⟩,by simp,e.symm⟩
  ·
   obtain ⟨x,hx,hxe⟩:=g2 h0 e
   exact ⟨x,by simp [hx],hxe⟩
 ·
  rw [List.pairwise_append]
  refine ⟨h.nodup,List.pairwise_singleton _ _,fun a ha' b hb=>?_⟩
  simp at hb
  subst hb
  intro e
  have:=(h.sound a ha').2.2.2
  rw [show key a.code = key s by rw [e],hl] at this
  cases this
 ·
  obtain ⟨g1,g2⟩:=hfull d hd hld
  refine ⟨g1,fun h0=>?_⟩
  by_cases e:d = s.data.toList
  ·
   subst e; rw [hT] at h0; exact absurd hc h0
  ·
   exact g2 h0 e
def SumsPost (K:List UInt8→Bool) (T:List UInt8→Int) (n:Nat) (w:World) (e:Ending) (w' : World) : Prop :=
 Below w.heap.size w w'∧(((∃ c,K c = true∧amtB (T c) = false)∧e = .returned (.tuple #[.slice none 0 0,.int .i64 4])) ∨
  ((∀ c,K c = true→amtB (T c) = true)∧∃ A cap ys,e = .returned (.tuple #[.slice A ys.length cap,.int .i64 0])∧SliceOf encE 2 w' w'.heap.size A ys∧ys.length≤n∧ys.length≤cap∧cap≤maxLen∧(∀ a,A = some a→w.heap.size≤a.block) ∧
   ys.Pairwise (fun a b=>lessE a b = true)∧∀ x:Elem,x ∈ ys ↔ (K x.code.data.toList = true∧x.amount = T x.code.data.toList∧x.amount ≠ 0)))
set_option maxRecDepth 100000 in
set_option maxHeartbeats 2000000 in
theorem sumsG_any (B n : Nat) (D:DataW Unit) (K:List UInt8→Bool) (T:List UInt8→Int) (w:World) (hown:w.ownsMap Tryz.prog 9 (plainElem (H:=Unit) Tryz.prog 3) B n D) (hD:MapD D K T) (hn:n≤100000) :
  Calls Tryz.prog 159 #[.map (some B)] w (SumsPost K T n w):=by
 have hBl:B < w.heap.size:=by
  obtain ⟨es,clock,hb,_⟩:=hown
  exact (Array.getElem?_eq_some_iff.1 hb).1
 have hsize:Maps.size D≤n:=by
  obtain ⟨es,clock,_,_,hn',rfl⟩:=hown
  rw [Maps.size_eq,length_insertAll]
  simpa using hn'
 go_enter Tryz.func159,Tryz.ntmps159
 go_wp2_with (at_range; refine wpList_range_own _ (by rfl) _ 181 (by rfl) 9 3 lawS Tryz.underlying181 (plainElem (H:=Unit) Tryz.prog 3) B n D (by rfl) hown ?_; intro w0 hrg0 hg0 hs0)
 go_frame
 go_loopw [4,5] (fun v _ wr=>∃ left cnt ys,wr.ranges Tryz.prog 9 (plainElem (H:=Unit) Tryz.prog 3) B w.heap.size n D left cnt∧Own encE 2 69 wr (w.heap.size+1) v ys∧Col K T left ys∧ys.length+cnt≤n∧Below w.heap.size w wr) (fun _ _ wr=>wr.rangeLeft B w.heap.size)
 case atStart=>exact ⟨_,_,[],hrg0,Own.nil_ _ _,Col.start hD,by simpa using hsize,only_below hg0 (Nat.le_refl _) (by simp)⟩
 case round =>
  obtain ⟨left,cnt,ys,hrg,hrow,hcol,hlen,hbel⟩:=hrel
  have hbs:=hbel.size
  have hrs:=hrg.lt
  go_wp2_with (at_next; refine wpList_next_ranges _ (by rfl) _ (by rfl) 9 lawS (plainElem (H:=Unit) Tryz.prog 3) Value.string (Value.int .i64) (fun key kl hk=>by obtain ⟨x,hx,_⟩:=Maps.keyOf_str Tryz.underlying9 hk; exact ⟨_,hx⟩) (fun v y hv=>by obtain ⟨c,hc,_⟩:=plainElem_int_inv Tryz.underlying3 hv; exact ⟨c,hc⟩) B w.heap.size n _ _ _ (by rfl) hrg ?_ ?_)
  ·
   intro hc0 hl0
   obtain ⟨A5,c5,rfl,hS5,hB5,hlc5,hcm5⟩:=hrow.form2 encE_len
   go_wp2_with fail
   refine (sortW_any A5 c5 (w.heap.size+1) ys _ hrow (by omega)).mono ?_
   rintro e w1 ⟨rfl,zs,hp,hsd,hSz,hb1⟩
   have hlz:=hp.length_eq
   go_wp2
   go_ret2
   refine ⟨hbel.trans (hb1.mono (by omega)),.inr ⟨fun c hc=>(hcol.full c hc (hl0 _)).1,A5,c5,zs,by rw [hlz]; rfl,hSz,by omega,by omega,hcm5,(fun a ha=>by have:=hB5 a ha; omega),?_,fun x=>?_⟩⟩
   ·
    exact strict_of hsd (hcol.nodup.perm hp.symm (fun h e=>h e.symm))
   ·
    rw [hp.mem_iff]
    refine ⟨fun hx=>⟨(hcol.sound x hx).1,(hcol.sound x hx).2.1,(hcol.sound x hx).2.2.1⟩,fun ⟨h1,h2,h3⟩=>?_⟩
    obtain ⟨y,hy,hye⟩:=(hcol.full _ h1 (hl0 _)).2 (by rw [← h2]; exact h3)
    have hyx:y = x:=by
     obtain ⟨_,g2,_⟩:=hcol.sound y hy
     have hc:y.code = x.code:=key_inj (by simp [key,hye])
     obtain ⟨a,b⟩:=y
     obtain ⟨c,d⟩:=x
     simp only at hc g2 h2
     subst hc
     rw [g2,h2]
    rw [← hyx]; exact hy
  ·
   intro s c kl yd yp w2 cnt2 hkey hlk hv hat hrg2 hlt hg2 hs2 hen
   obtain ⟨x',hx',rfl,hxl⟩:=Maps.keyOf_str Tryz.underlying9 hkey
   have hsx:x' = s.data.toList:=by
    have h1:s = ⟨x'.toArray⟩:=by simpa [encStr] using hx'
    rw [h1]
   subst hsx
   have hyd:yd = i64L c:=by
    obtain ⟨c',h1,h2,_⟩:=plainElem_int_inv Tryz.underlying3 hv
    injection h1 with _ h1
    subst h1
    injection h2
   have hKs:K s.data.toList = true:=by rw [← hD.has]; exact has_true_of_atKey hat
   have hTs:T s.data.toList = c:=by
    have h1:=hD.at_ s.data.toList
    rw [hat,hyd] at h1
    injection h1 with h1
    injection h1 with _ h1
    exact h1.symm
   have hlk':left (key s) = true:=hlk
   have hrow2:=hrow.kept hg2 (by intro g e; injection e; omega)
   have hbel2:Below w.heap.size w w2:=hbel.grown hg2 hbs (by intro g e; injection e; omega)
   have hbs2:=hbel2.size
   have hrs2:=hrg2.lt
   have HT:=Lib.hid hTs
   clear hs2 hat hkey hx' hv hyd hTs
   by_cases ha:amtB c = true
   ·
    have HST:=Lib.hid (hcol.step hlk' hKs HT.out ha)
    by_cases hc0:c = 0
    ·
     have hn0:(c != 0) = false:=by simp [hc0]
     have hcol2:=HST.out.2 hc0
     clear hc0
     go_wp2_with (go_at_call 158; refine (isAmount_any _ _).mono ?_; rintro e w' ⟨rfl,rfl⟩)
     go_roundw
     case rel =>
      have hf:∃ left cnt ys,w2.ranges Tryz.prog 9 (plainElem (H:=Unit) Tryz.prog 3) B w.heap.size n D left cnt∧Own encE 2 69 w2 (w.heap.size+1) u4 ys∧Col K T left ys∧ys.length+cnt≤n∧Below w.heap.size w w2:=⟨_,_,ys,hrg2,hrow2,hcol2,by omega,hbel2⟩
      first | exact hf | ((repeat apply Exists.intro); exact ⟨hf,rfl⟩)
     case measure=>rw [hrg2.left_eq,hrg.left_eq]; omega
    ·
     have hn0:(c != 0) = true:=by simp [hc0]
     have hcol2:=HST.out.1 hc0
     have hne:some B ≠ u4.ownBlock:=fun e=>by have:=(hrow2.block_lt e.symm).1; omega
     have hne2:some w.heap.size ≠ u4.ownBlock:=fun e=>by have:=(hrow2.block_lt e.symm).1; omega
     have hr4:=fun g hg=>(hrow2.block_lt (g:=g) hg).1
     clear hc0
     go_wp2_with (first | (go_at_call 158; refine (isAmount_any _ _).mono ?_; rintro e w' ⟨rfl,rfl⟩) | (at_builtin; (refine wpList_append_one _ _ 51 ⟨s,c⟩ _ 24 _ infoE Tryz.underlying51 hrow2 encE_len (by omega) rfl (encE_one _) (by omega) (by omega) (by omega) (by rfl) (by rfl) (by rfl) (by rfl) (by simp) (by rfl) ?_); intro v2 w6 hown7 hg7))
     go_roundw
     case rel =>
      have hf:∃ left cnt ys,w6.ranges Tryz.prog 9 (plainElem (H:=Unit) Tryz.prog 3) B w.heap.size n D left cnt∧Own encE 2 69 w6 (w.heap.size+1) v2 ys∧Col K T left ys∧ys.length+cnt≤n∧Below w.heap.size w w6:=⟨_,_,_,hrg2.kept hg7 hne hne2,hown7,hcol2,by simp; omega,hbel2.grown hg7 hbs2 (fun g hg=>by have:=hr4 g hg; omega)⟩
      first | exact hf | ((repeat apply Exists.intro); exact ⟨hf,rfl⟩)
     case measure=>rw [(hrg2.kept hg7 hne hne2).left_eq,hrg.left_eq]; omega
   ·
    have ha':amtB c = false:=by simpa using ha
    clear ha
    go_wp2_with (go_at_call 158; refine (isAmount_any _ _).mono ?_; rintro e w' ⟨rfl,rfl⟩)
    go_ret2
    exact ⟨hbel2,.inl ⟨⟨_,hKs,by rw [HT.out]; exact ha'⟩,rfl⟩⟩
end Go.Proofs.YtlhkojcmcmkmaaaGreat
namespace Go.Proofs.YtlhkojcmcmkmaaaGreat
open Go.RowKit
theorem over_iff (l:List Elem) : (sumsP l).any (fun x=>!amtB x.amount) = true ↔ ∃ c,keyE l c = true∧amtB (totE l c) = false:=by
 rw [List.any_eq_true]
 constructor
 ·
  rintro ⟨x,hx,h⟩
  rw [mem_sorted (sumsP_sorted l),sumsP_key,sumsP_tot] at hx
  exact ⟨_,hx.1,by rw [← hx.2]; simpa using h⟩
 ·
  rintro ⟨c,hc,h⟩
  obtain ⟨x,hx,he⟩:=List.any_eq_true.1 hc
  have he':x.code.data.toList = c:=by simpa using he
  refine ⟨⟨x.code,totE l c⟩,?_,by simp [h]⟩
  rw [mem_sorted (sumsP_sorted l),sumsP_key,sumsP_tot]
  exact ⟨by show keyE l x.code.data.toList = true; rw [he']; exact hc,by show totE l c = totE l x.code.data.toList; rw [he']⟩
end Go.Proofs.YtlhkojcmcmkmaaaGreat
namespace Go.Proofs.YtlhkojcmcmkmaaaGreat
open Go.RowKit Go.Sort Go.Shelf Go.Maps
theorem totE_bd (l:List Elem) (c:List UInt8) (h : ∀ x ∈ l,amtB x.amount = true) : -(l.length * 1000000000 : Int)≤totE l c∧totE l c≤l.length * 1000000000:=by
 induction l with
 | nil=>simp [totE]
 | cons a l ih =>
  have h1:=ih (fun x hx=>h x (by simp [hx]))
  have h2 : -1000000000≤a.amount∧a.amount≤1000000000:=by have:=h a (by simp); simpa [amtB] using this
  simp only [totE,List.length_cons]
  have e9:((l.length+1:Nat) : Int) * 1000000000 = (l.length:Int) * 1000000000+1000000000:=by omega
  rw [e9]
  split <;> omega
def MergePost (m:List Elem) (er:Int) (w:World) (e:Ending) (w' : World) : Prop :=
 ∃ A cap,e = .returned (.tuple #[.slice A m.length cap,.int .i64 er])∧SliceOf encE 2 w' w'.heap.size A m∧m.length≤cap∧cap≤maxLen∧Below w.heap.size w w'
def MergePostF (m:List Elem) (er:Int) (w:World) (e:Ending) (w' : World) : Prop :=
 ∃ A cap,e = .returned (.tuple #[.slice A m.length cap,.int .i64 er])∧SliceOf encE 2 w' w'.heap.size A m∧m.length≤cap∧cap≤maxLen∧(∀ a,A = some a→w.heap.size≤a.block)∧Below w.heap.size w w'
set_option maxRecDepth 100000 in
set_option maxHeartbeats 4000000 in
theorem merge_anyF (A:Option Addr) (cap:Nat) (xs:List Elem) (w:World) (h:SliceOf encE 2 w w.heap.size A xs) (hz : ∀ x ∈ xs,x.code.size≤maxLen) (hl:xs.length≤9223372036854775806) :
  Calls Tryz.prog 103 #[.slice A xs.length cap] w (MergePostF (mergeR xs) (preErr xs) w):=by
 have HZ:=Lib.hid hz; clear hz
 have fail_:∀ (n:Int) (W:World),n ≠ 0→preErr xs = n→Below w.heap.size w W→MergePostF (mergeR xs) (preErr xs) w (Ending.returned (.tuple #[.slice none 0 0,.int .i64 n])) W:=by
  intro n W hn he hb
  have hm:mergeR xs = []:=by rw [mergeR,if_neg (by rw [he]; exact hn)]
  rw [hm,he]
  exact ⟨none,0,rfl,SliceOf.nil_,by simp,by unfold maxLen; omega,(fun a ha=>by cases ha),hb⟩
 have FAIL:=Lib.hid fail_
 clear fail_
 have hmm:=@run_makeMap Tryz.prog
 by_cases hlen:128 < xs.length
 ·
  have HP:Hid (preErr xs = 3):=by simp only [Hid,preErr,if_pos hlen]
  go_enter Tryz.func103,Tryz.ntmps103
  go_wp2
  go_ret2
  exact FAIL.out 3 _ (by omega) HP.out (Below.refl _ _)
 ·
  have hlen':xs.length≤128:=by omega
  clear hlen hl
  go_enter Tryz.func103,Tryz.ntmps103
  go_wp2
  go_loopw [16] (fun i wr=>∃ k:Nat,k≤xs.length∧i = .int .i64 k∧Hid (∀ j,(hj:j < xs.length)→j < k→nameB xs[j].code = true)∧Below w.heap.size w wr) (fun i _=>xs.length - (intOf i).toNat)
  case atStart=>exact ⟨0,by omega,rfl,fun j _ hj=>absurd hj (by omega),Below.refl _ _⟩
  case round =>
   obtain ⟨k,hk,rfl,hall,hbel⟩:=hrel
   have hbs:=hbel.size
   by_cases hlt:k < xs.length
   ·
    obtain ⟨b,off,rfl,hb,hc⟩:=(h.below hbel).at_ hlt
    have c0:=hc 0 _ rfl
    have c1:=hc 1 _ rfl
    simp only [Nat.add_zero] at c0
    clear hc
    have hzk:=HZ.out _ (List.getElem_mem hlt)
    by_cases hn:nameB xs[k].code = true
    ·
     go_wp2_with (go_at_call 82; refine (isName_any _ _ hzk).mono ?_; rintro e w' ⟨rfl,rfl⟩)
     go_roundw
     case rel =>
      refine ⟨k+1,by omega,by go_num,fun j hj hjk=>?_,hbel.alloc hbs _⟩
      rcases Nat.lt_or_ge j k with h1 | h1
      ·
       exact hall.out j hj h1
      ·
       obtain rfl:j = k:=by omega
       exact hn
     case measure=>simp [intOf]; omega
    ·
     have hn':nameB xs[k].code = false:=by simpa using hn
     have HP:Hid (preErr xs = 7):=by
      have h7:xs.any (fun x=>!nameB x.code) = true:=List.any_eq_true.2 ⟨xs[k],List.getElem_mem _,by simp [hn']⟩
      simp only [Hid,preErr,if_neg (show ¬ 128 < xs.length by omega),h7,if_true]
     clear hn
     go_wp2_with (go_at_call 82; refine (isName_any _ _ hzk).mono ?_; rintro e w' ⟨rfl,rfl⟩)
     go_ret2
     exact FAIL.out 7 _ (by omega) HP.out (hbel.alloc hbs _)
   ·
    have h7:Hid (xs.any (fun x=>!nameB x.code) = false):=by
     rw [Hid,List.any_eq_false]
     intro x hx
     obtain ⟨j,hj,rfl⟩:=List.mem_iff_getElem.1 hx
     simp [hall.out j hj (by omega)]
    obtain ⟨wo,rfl⟩ : ∃ wo:World,wo = wr:=⟨_,rfl⟩
    go_wp2
    clear hall hk hlt
    go_loopw [27] (fun i wr=>∃ k:Nat,k≤xs.length∧i = .int .i64 k∧Hid (∀ j,(hj:j < xs.length)→j < k→amtB xs[j].amount = true)∧Below w.heap.size w wr) (fun i _=>xs.length - (intOf i).toNat)
    case atStart=>exact ⟨0,by omega,rfl,fun j _ hj=>absurd hj (by omega),hbel⟩
    case round =>
     obtain ⟨k,hk,rfl,hall,hbel⟩:=hrel
     have hbs:=hbel.size
     by_cases hlt:k < xs.length
     ·
      obtain ⟨b,off,rfl,hb,hc⟩:=(h.below hbel).at_ hlt
      have c0:=hc 0 _ rfl
      have c1:=hc 1 _ rfl
      simp only [Nat.add_zero] at c0
      clear hc
      by_cases hn:amtB xs[k].amount = true
      ·
       go_wp2_with (go_at_call 158; refine (isAmount_any _ _).mono ?_; rintro e w' ⟨rfl,rfl⟩)
       go_roundw
       case rel =>
        refine ⟨k+1,by omega,by go_num,fun j hj hjk=>?_,hbel.alloc hbs _⟩
        rcases Nat.lt_or_ge j k with h1 | h1
        ·
         exact hall.out j hj h1
        ·
         obtain rfl:j = k:=by omega
         exact hn
       case measure=>simp [intOf]; omega
      ·
       have hn':amtB xs[k].amount = false:=by simpa using hn
       have HP:Hid (preErr xs = 2):=by
        have h2:xs.any (fun x=>!amtB x.amount) = true:=List.any_eq_true.2 ⟨xs[k],List.getElem_mem _,by simp [hn']⟩
        simp only [Hid,preErr,if_neg (show ¬ 128 < xs.length by omega),h7.out,h2,if_true,Bool.false_eq_true,if_false]
       clear hn
       go_wp2_with (go_at_call 158; refine (isAmount_any _ _).mono ?_; rintro e w' ⟨rfl,rfl⟩)
       go_ret2
       exact FAIL.out 2 _ (by omega) HP.out (hbel.alloc hbs _)
     ·
      have h2a:Hid (∀ x ∈ xs,amtB x.amount = true):=by
       intro x hx
       obtain ⟨j,hj,rfl⟩:=List.mem_iff_getElem.1 hx
       exact hall.out j hj (by omega)
      have h2:Hid (xs.any (fun x=>!amtB x.amount) = false):=by
       rw [Hid,List.any_eq_false]
       intro x hx
       simp [h2a.out x hx]
      obtain ⟨wp,rfl⟩ : ∃ wp:World,wp = wr:=⟨_,rfl⟩
      go_wp2
      clear hall hk hlt
      have hmap0:(wp.alloc (.map #[] 0)).ownsMap Tryz.prog 9 (plainElem (H:=Unit) Tryz.prog 3) wp.heap.size 0 (.map []):=World.ownsMap_made _ _ _ _
      have hbel0:Below w.heap.size w (wp.alloc (.map #[] 0)):=hbel.alloc hbs _
      go_loopw [39] (fun i wr=>∃ (k:Nat) (D:DataW Unit),k≤xs.length∧i = .int .i64 k∧wr.ownsMap Tryz.prog 9 (plainElem (H:=Unit) Tryz.prog 3) wp.heap.size k D∧MapD D (keyE (xs.take k)) (totE (xs.take k))∧Below w.heap.size w wr) (fun i _=>xs.length - (intOf i).toNat)
      case atStart=>exact ⟨0,.map [],by omega,rfl,hmap0,MapD.empty,hbel0⟩
      case round =>
       clear hmap0 hbel0
       obtain ⟨k,D,hk,rfl,hown,hD,hbel3⟩:=hrel
       have hbs3:=hbel3.size
       by_cases hlt:k < xs.length
       ·
        obtain ⟨b,off,rfl,hb,hc⟩:=(h.below hbel3).at_ hlt
        have c0:=hc 0 _ rfl
        have c1:=hc 1 _ rfl
        simp only [Nat.add_zero] at c0
        clear hc
        have hzk:=HZ.out _ (List.getElem_mem hlt)
        have hkey:keyOf Tryz.prog 9 (.string xs[k].code) = some (key xs[k].code):=WideMaps.keyOf_string_mk Tryz.underlying9 hzk
        have hown1:=hown.kept (World.grownBy_alloc wr (Obj.cells #[Value.string xs[k].code,Value.int IntKind.i64 xs[k].amount] 69) none) (by simp)
        have hTb:=totE_bd (xs.take k) xs[k].code.data.toList (fun x hx=>h2a.out x (List.mem_of_mem_take hx))
        have hTl:(xs.take k).length≤128:=by simp; omega
        have hxk : -1000000000≤xs[k].amount∧xs[k].amount≤1000000000:=by have:=h2a.out _ (List.getElem_mem hlt); simpa [amtB] using this
        obtain ⟨hxk1,hxk2⟩:=hxk
        have hat0:=hD.at_ xs[k].code.data.toList
        have hT1 : -1000000000000≤totE (xs.take k) xs[k].code.data.toList:=by omega
        have hT2:totE (xs.take k) xs[k].code.data.toList≤1000000000000:=by omega
        have hD1:=hD.put_ (K':=keyE (xs.take (k+1))) (T':=totE (xs.take (k+1))) xs[k].code (totE (xs.take k) xs[k].code.data.toList+xs[k].amount) (keyE_take xs k hlt) (fun c=>by
         rw [totE_take xs k hlt]
         split
         ·
          rename_i e; rw [← e]
         ·
          omega)
        have HD1:=Lib.hid hD1
        have HAT:=Lib.hid hat0
        generalize totE (xs.take k) xs[k].code.data.toList = t0 at hT1 hT2 HD1 HAT
        clear hTb hTl hat0 hD hD1
        go_wp2_with (first
         | (at_lookup; refine wpList_lookup_own_int _ (by rfl) _ _ 181 (by rfl) 9 3 .i64 lawS Tryz.underlying181 Tryz.underlying3 (zeroI _) wp.heap.size k D (by rfl) hown1 _ _ (by rfl) hkey ?_; intro c hat hwc; obtain rfl:c = t0:=(by have h1:=HAT.out; rw [show Lit.string xs[k].code.data.toList = key xs[k].code from rfl,hat] at h1; injection h1 with h1; injection h1))
         | (at_mapUpdate; refine wpList_mapUpdate_own _ (by rfl) _ _ _ 181 (by rfl) 9 3 lawS Tryz.underlying181 _ wp.heap.size k D (by rfl) hown1 (by unfold maxLen; omega) _ _ _ (by rfl) (by rfl) hkey _ [] (plainElem_int Tryz.underlying3 (wf64 (by omega) (by omega))) ?_; intro w1 hown2 hgrow1))
        go_roundw
        case rel=>exact ⟨k+1,_,by omega,by go_num,hown2,HD1.out,(hbel3.alloc hbs3 _).grown hgrow1 (by simp; omega) (fun g e=>by injection e; omega)⟩
        case measure=>simp [intOf]; omega
       ·
        have ek:xs.take k = xs:=List.take_of_length_le (by omega)
        rw [ek] at hD
        go_wp2_with fail
        refine (sumsG_any wp.heap.size k D _ _ _ hown hD (by omega)).mono ?_
        rintro e w4 ⟨hb4,⟨hbad,rfl⟩ | ⟨hgood,A4,cap4,ys,rfl,hS4,hyn,hyc,hcm4,hfr4,hys,hmem⟩⟩
        ·
         have HP:Hid (preErr xs = 4):=by
          have h4:=(over_iff xs).2 hbad
          simp only [Hid,preErr,if_neg (show ¬ 128 < xs.length by omega),h7.out,h2.out,h4,if_true,Bool.false_eq_true,if_false]
         go_wp2
         go_ret2
         exact FAIL.out 4 _ (by omega) HP.out (hbel3.trans (hb4.mono hbs3))
        ·
         have HP:Hid (preErr xs = 0):=by
          have h4:(sumsP xs).any (fun x=>!amtB x.amount) = false:=by
           cases hh:(sumsP xs).any (fun x=>!amtB x.amount)
           ·
            rfl
           ·
            obtain ⟨c,hc1,hc2⟩:=(over_iff xs).1 hh
            rw [hgood c hc1] at hc2
            cases hc2
          simp only [Hid,preErr,if_neg (show ¬ 128 < xs.length by omega),h7.out,h2.out,h4,Bool.false_eq_true,if_false]
         have HM:Hid (mergeR xs = ys):=by rw [Hid,mergeR,if_pos HP.out,← merged_eq hys hmem]
         go_wp2
         go_ret2
         rw [HM.out,HP.out]
         exact ⟨A4,cap4,rfl,hS4,hyc,hcm4,(fun a ha=>by have:=hfr4 a ha; have:=hbel3.size; omega),hbel3.trans (hb4.mono hbs3)⟩
theorem merge_any (A:Option Addr) (cap:Nat) (xs:List Elem) (w:World) (h:SliceOf encE 2 w w.heap.size A xs) (hz : ∀ x ∈ xs,x.code.size≤maxLen) (hl:xs.length≤9223372036854775806) :
  Calls Tryz.prog 103 #[.slice A xs.length cap] w (MergePost (mergeR xs) (preErr xs) w) :=
 (merge_anyF A cap xs w h hz hl).mono fun _ _ ⟨A,c,h1,h2,h3,h4,_,h6⟩=>⟨A,c,h1,h2,h3,h4,h6⟩
end Go.Proofs.YtlhkojcmcmkmaaaGreat
namespace Go.Proofs.YtlhkojcmcmkmaaaGreat
open Go.RowKit
theorem preErr_zero2 {l:List Elem} (h:preErr l = 0) : Bdd 1000000000 l∧l.length≤128:=by
 have h1:¬ 128 < l.length:=by
  intro h1; rw [preErr,if_pos h1] at h; cases h
 rw [preErr,if_neg h1] at h
 split at h
 ·
  cases h
 ·
  split at h
  ·
   cases h
  ·
   rename_i h4
   refine ⟨fun x hx=>?_,by omega⟩
   simp only [Bool.not_eq_true,List.any_eq_false] at h4
   have:=h4 x hx
   simpa [amtB] using this
structure OfCutP (w w2 w4 w3 : World) (x:Elem) (y:WageT) (b:BasesT) (wx:World) : Prop where
 bs:Bs wx w2.heap.size b
 rs:Bs wx w.heap.size zeroB
 bel:Below w2.heap.size w2 wx
 wg:Blk wx w4.heap.size 77 (encW y).toArray
 xb:Blk wx w3.heap.size 69 #[.string x.code,.int .i64 x.amount]
 lt1:w.heap.size < w2.heap.size
 lt2:w2.heap.size < w4.heap.size
 lt3:w2.heap.size < w3.heap.size
section
variable {w w2 w4 w3 wx:World} {x:Elem} {y:WageT} {b:BasesT}
theorem OfCutP.step (h:OfCutP w w2 w4 w3 x y b wx) {b' : BasesT} {i:Nat} {u:Value} (hb:Bs (wx.setCell ⟨w2.heap.size,i,none⟩ u) w2.heap.size b') : OfCutP w w2 w4 w3 x y b' (wx.setCell ⟨w2.heap.size,i,none⟩ u) :=
 ⟨hb,h.rs.far (by have:=h.lt1; simp; omega) _,h.bel.setCell (by simp) _,h.wg.far (by have:=h.lt2; simp; omega) _,h.xb.far (by have:=h.lt3; simp; omega) _,h.lt1,h.lt2,h.lt3⟩
theorem OfCutP.set_c (h:OfCutP w w2 w4 w3 x y b wx) (n:Int) : OfCutP w w2 w4 w3 x y { b with c:=n } (wx.setCell ⟨w2.heap.size,1,none⟩ (.int .i64 n)):=h.step (h.bs.c n)
theorem OfCutP.set_t (h:OfCutP w w2 w4 w3 x y b wx) (n:Int) : OfCutP w w2 w4 w3 x y { b with t:=n } (wx.setCell ⟨w2.heap.size,2,none⟩ (.int .i64 n)):=h.step (h.bs.t n)
theorem OfCutP.set_i (h:OfCutP w w2 w4 w3 x y b wx) (n:Int) : OfCutP w w2 w4 w3 x y { b with i:=n } (wx.setCell ⟨w2.heap.size,3,none⟩ (.int .i64 n)):=h.step (h.bs.i n)
theorem OfCutP.set_a (h:OfCutP w w2 w4 w3 x y b wx) (n:Int) : OfCutP w w2 w4 w3 x y { b with a:=n } (wx.setCell ⟨w2.heap.size,4,none⟩ (.int .i64 n)):=h.step (h.bs.a n)
end
def nthB (b:BasesT) : Nat→Int
 | 0=>b.g
 | 1=>b.c
 | 2=>b.t
 | 3=>b.i
 | _=>b.a
theorem idx5_0 (b:BasesT) (w:World) : (Instr.index 180 (.agg #[.int .i64 b.g,.int .i64 b.c,.int .i64 b.t,.int .i64 b.i,.int .i64 b.a]) (.int .i64 0)).run Tryz.prog w = .ok (.int .i64 b.g) w:=by kernel_rfl
theorem idx5_1 (b:BasesT) (w:World) : (Instr.index 180 (.agg #[.int .i64 b.g,.int .i64 b.c,.int .i64 b.t,.int .i64 b.i,.int .i64 b.a]) (.int .i64 1)).run Tryz.prog w = .ok (.int .i64 b.c) w:=by kernel_rfl
theorem idx5_2 (b:BasesT) (w:World) : (Instr.index 180 (.agg #[.int .i64 b.g,.int .i64 b.c,.int .i64 b.t,.int .i64 b.i,.int .i64 b.a]) (.int .i64 2)).run Tryz.prog w = .ok (.int .i64 b.t) w:=by kernel_rfl
theorem idx5_3 (b:BasesT) (w:World) : (Instr.index 180 (.agg #[.int .i64 b.g,.int .i64 b.c,.int .i64 b.t,.int .i64 b.i,.int .i64 b.a]) (.int .i64 3)).run Tryz.prog w = .ok (.int .i64 b.i) w:=by kernel_rfl
theorem idx5_4 (b:BasesT) (w:World) : (Instr.index 180 (.agg #[.int .i64 b.g,.int .i64 b.c,.int .i64 b.t,.int .i64 b.i,.int .i64 b.a]) (.int .i64 4)).run Tryz.prog w = .ok (.int .i64 b.a) w:=by kernel_rfl
theorem idx5 (b:BasesT) (k:Nat) (hk:k < 5) (w:World) : (Instr.index 180 (.agg #[.int .i64 b.g,.int .i64 b.c,.int .i64 b.t,.int .i64 b.i,.int .i64 b.a]) (.int .i64 (k:Int))).run Tryz.prog w = .ok (.int .i64 (nthB b k)) w:=by
 have h:k = 0 ∨ k = 1 ∨ k = 2 ∨ k = 3 ∨ k = 4:=by omega
 rcases h with rfl | rfl | rfl | rfl | rfl
 ·
  exact idx5_0 b w
 ·
  exact idx5_1 b w
 ·
  exact idx5_2 b w
 ·
  exact idx5_3 b w
 ·
  exact idx5_4 b w
theorem amts_no {b:BasesT} {m:Nat} (hm:m < 5) (h:amtB (nthB b m) = false) : amtsB b = false:=by
 match m,hm with
 | 0,_=>simp only [nthB] at h; simp [amtsB,h]
 | 1,_=>simp only [nthB] at h; simp [amtsB,h]
 | 2,_=>simp only [nthB] at h; simp [amtsB,h]
 | 3,_=>simp only [nthB] at h; simp [amtsB,h]
 | 4,_=>simp only [nthB] at h; simp [amtsB,h]
theorem amts_yes {b:BasesT} (h : ∀ j,j < 5→amtB (nthB b j) = true) : amtsB b = true:=by
 have h0:=h 0 (by omega)
 have h1:=h 1 (by omega)
 have h2:=h 2 (by omega)
 have h3:=h 3 (by omega)
 have h4:=h 4 (by omega)
 simp only [nthB] at h0 h1 h2 h3 h4
 simp [amtsB,h0,h1,h2,h3,h4]
set_option maxRecDepth 100000 in
set_option maxHeartbeats 8000000 in
theorem of_any (A E : Option Addr) (cap ecap : Nat) (ws:List WageT) (xs:List Elem) (w:World) (h:SliceOf encW 6 w w.heap.size A ws) (hzw : ∀ x ∈ ws,x.code.size≤maxLen) (hlw:ws.length≤9223372036854775806)
  (hE:SliceOf encE 2 w w.heap.size E xs) (hz:∀ x ∈ xs,x.code.size≤maxLen) (hl:xs.length≤9223372036854775806) :
  Calls Tryz.prog 102 #[.slice A ws.length cap,.slice E xs.length ecap] w fun r w'=>r = .returned (ofV ws xs xs)∧Below w.heap.size w w':=by
 have HZ:=Lib.hid hz; clear hz
 have HZW:=Lib.hid hzw; clear hzw
 go_enter Tryz.func102,Tryz.ntmps102
 go_wp2_with fail
 have hB0:Bs (w.alloc (.cells #[.int .i64 0,.int .i64 0,.int .i64 0,.int .i64 0,.int .i64 0] 24)) w.heap.size zeroB:=Blk.new _ _ _
 have hb0:Below w.heap.size w (w.alloc (.cells #[.int .i64 0,.int .i64 0,.int .i64 0,.int .i64 0,.int .i64 0] 24)):=(Below.refl _ _).alloc (Nat.le_refl _) _
 generalize w.alloc (.cells #[.int .i64 0,.int .i64 0,.int .i64 0,.int .i64 0,.int .i64 0] 24) = w0 at hB0 hb0 ⊢
 have hs0:w.heap.size < w0.heap.size:=Blk.lt hB0
 refine (valid_any A cap ws _ ((h.below hb0).more (by omega)) HZW.out (by omega)).mono ?_
 rintro e w1 ⟨rfl,hb1⟩
 have hB1:=hB0.below hb1 hs0
 have hbel1:=below_size hb0 hb1 (by omega)
 have hs1:=hb1.size
 by_cases hv:validB ws = true
 ·
  have HV:=Lib.hid hv
  go_wp2_with fail
  refine (merge_any E ecap xs _ ((hE.below hbel1).more (by omega)) HZ.out (by omega)).mono ?_
  rintro e w2 ⟨A6,c6,rfl,_,_,_,hb2⟩
  have hB2:=hB1.below hb2 (by omega)
  have hbel2:=below_size hbel1 hb2 (by omega)
  have hs2:=hb2.size
  by_cases h0:preErr xs = 0
  ·
   have H0:=Lib.hid h0
   rw [h0]
   obtain ⟨hSb,hSl⟩:=preErr_zero2 h0
   have hE2:=hE.below hbel2
   clear h0 hB0 hb0 hb1 hb2 hB1 hbel1
   go_wp2
   have hBb:Bs (w2.alloc (.cells #[.int .i64 0,.int .i64 0,.int .i64 0,.int .i64 0,.int .i64 0] 24)) w2.heap.size zeroB:=Blk.new _ _ _
   have hBr:=hB2.alloc (Obj.cells #[.int .i64 0,.int .i64 0,.int .i64 0,.int .i64 0,.int .i64 0] 24)
   have hBS:=(Below.refl w2.heap.size w2).alloc (Nat.le_refl _) (Obj.cells #[.int .i64 0,.int .i64 0,.int .i64 0,.int .i64 0,.int .i64 0] 24)
   generalize w2.alloc (.cells #[.int .i64 0,.int .i64 0,.int .i64 0,.int .i64 0,.int .i64 0] 24) = w3 at hBb hBr hBS ⊢
   go_loopw [30] (fun i wr=>∃ k:Nat,k≤xs.length∧i = .int .i64 k∧Hid (∀ j,(hj:j < xs.length)→j < k→(findW ws xs[j].code).isSome = true)∧Bs wr w2.heap.size (sumB ws (xs.take k))∧BddB (k * 1000000000) (sumB ws (xs.take k))∧Bs wr w.heap.size zeroB∧Below w2.heap.size w2 wr) (fun i _=>xs.length - (intOf i).toNat)
   case atStart=>exact ⟨0,by omega,rfl,fun j _ hj=>absurd hj (by omega),hBb,by simp [sumB,zeroB,BddB],hBr,hBS⟩
   case round =>
    clear hBb hBr hBS
    obtain ⟨k,hk,rfl,hall,hBb,hbd,hBr,hbel⟩:=hrel
    have hbs:=Blk.lt hBb
    by_cases hlt:k < xs.length
    ·
     obtain ⟨b,off,rfl,hb,hc⟩:=(hE2.below (hbel.mono (by omega))).at_ hlt
     have c0:=hc 0 _ rfl
     have c1:=hc 1 _ rfl
     simp only [Nat.add_zero] at c0
     clear hc
     go_wp2_with fail
     have hXb:=Blk.new wr 69 #[Value.string xs[k].code,Value.int IntKind.i64 xs[k].amount]
     refine (find_any A cap ws xs[k].code _ ((h.below ((hbel2.trans (hbel.mono (by omega))).alloc (by omega) _)).more (by simp; omega)) (by omega)).mono ?_
     rintro e w4 ⟨rfl,hb4⟩
     have hs4':wr.heap.size+1≤w4.heap.size:=by have:=hb4.size; simpa using this
     have hX4:=hXb.below hb4 (by simp)
     have hBb4:=(hBb.alloc _).below hb4 (by simp; omega)
     have hBr4:=(hBr.alloc _).below hb4 (by simp; omega)
     have hbel4:=below_size (hbel.alloc (by omega) _) hb4 (by simp; omega)
     have hs4:wr.heap.size < w4.heap.size:=by omega
     have hw4:w.heap.size < w4.heap.size:=by omega
     have hw24:w2.heap.size < w4.heap.size:=by omega
     have hbw4:b < w4.heap.size:=by omega
     rcases hf:findW ws xs[k].code with _ | y
     ·
      rw [foundV_none]
      obtain ⟨r0,r1,r2,r3,r4⟩:=hBr4.cells
      obtain ⟨q0,q1,q2,q3,q4⟩:=hBr4.frz
      have HE:Hid (ofErr ws xs xs = 16):=by
       have hm:missing ws xs = true:=List.any_eq_true.2 ⟨xs[k],List.getElem_mem _,by simp [hf]⟩
       simp only [Hid,ofErr,HV.out,H0.out,hm,if_true,Bool.true_eq_false,if_false,ne_eq,not_true_eq_false]
      go_wp2
      have hfb:=(hBr4.put zeroB).alloc (Obj.cells #[.string ⟨#[]⟩,.int .i64 0,.bool false,.bool false,.bool false,.int .i64 0] 77)
      have hfB:Below w.heap.size w _:=(below_put5 (hbel2.trans (hbel4.mono (by omega))) (Nat.le_refl _) (.int .i64 0) (.int .i64 0) (.int .i64 0) (.int .i64 0) (.int .i64 0)).alloc (by simp; omega) (Obj.cells #[.string ⟨#[]⟩,.int .i64 0,.bool false,.bool false,.bool false,.int .i64 0] 77)
      simp only [zeroB] at hfb
      generalize World.alloc _ _ = WW at hfb hfB ⊢
      obtain ⟨z0,z1,z2,z3,z4⟩:=hfb.cells
      refine bodyPost_ret (v:=ofV ws xs xs) ?_ rfl ⟨rfl,hfB⟩
      rw [ofV,HE.out]
      simp [results,Tryz.results102,go_sem,z0,z1,z2,z3,z4,encBas,zeroB]
     ·
      rw [foundV_some]
      obtain ⟨r0,r1,r2,r3,r4⟩:=hBb4.cells
      obtain ⟨q0,q1,q2,q3,q4⟩:=hBb4.frz
      have d1:=hX4.cell 1
      simp only [nqg,nqh,nqi] at d1
      have hSk:=hSb _ (List.getElem_mem hlt)
      obtain ⟨hSk1,hSk2⟩:=hSk
      have hbd1:=hbd.add (C:=1000000000) (by omega) y hSk1 hSk2
      have est:sumB ws (xs.take (k+1)) = addBs (sumB ws (xs.take k)) y xs[k].amount:=by rw [sumB_take ws xs k hlt,stepB,hf]; rfl
      have EST:=Lib.hid est
      have hall1:∀ j,(hj:j < xs.length)→j < k+1→(findW ws xs[j].code).isSome = true:=by
       intro j hj hjk
       rcases Nat.lt_or_ge j k with h1 | h1
       ·
        exact hall.out j hj h1
       ·
        obtain rfl:j = k:=by omega
        rw [hf]; rfl
      have HALL:=Lib.hid hall1
      clear hall1 est hf c0
      generalize sumB ws (xs.take k) = bb at *
      obtain ⟨⟨g1,g2⟩,⟨g3,g4⟩,⟨g5,g6⟩,⟨g7,g8⟩,⟨g9,g10⟩⟩:=hbd
      have hcut0:OfCutP w w2 w4 wr xs[k] y ⟨bb.g+xs[k].amount,bb.c,bb.t,bb.i,bb.a⟩ ((w4.setCell ⟨w2.heap.size,0,none⟩ (.int .i64 (bb.g+xs[k].amount))).alloc (.cells (encW y).toArray 77)) :=
       ⟨(hBb4.g _).alloc _,(hBr4.far (by simp; omega) _).alloc _,(hbel4.setCell (by simp) _).alloc (by simp; omega) _,by have:=Blk.new (w4.setCell ⟨w2.heap.size,0,none⟩ (.int .i64 (bb.g+xs[k].amount))) 77 (encW y).toArray; simpa using this,(hX4.far (by simp; omega) _).alloc _,by omega,by omega,by omega⟩
      have HC0:=Lib.hid hcut0
      clear hcut0
      go_upto_if 52 with fail
      generalize hW0:World.alloc _ _ = W0
      have C0:OfCutP w w2 w4 wr xs[k] y ⟨bb.g+xs[k].amount,bb.c,bb.t,bb.i,bb.a⟩ W0:=by rw [← hW0]; exact HC0.out
      clear hW0 r0 r1 r2 r3 r4 q0 q1 q2 q3 q4 d1 HC0 hBb4 hBr4 hBb hBr hbel hbel4 hB2 hXb hX4 hb4 c1
      obtain ⟨r0,r1,r2,r3,r4⟩:=C0.bs.cells
      obtain ⟨q0,q1,q2,q3,q4⟩:=C0.bs.frz
      have x1:=C0.xb.cell 1
      have y1:=C0.wg.cell 1
      have y2:=C0.wg.cell 2
      have y3:=C0.wg.cell 3
      have y4:=C0.wg.cell 4
      simp only [encW,List.getElem?_toArray,List.getElem?_cons_zero,List.getElem?_cons_succ] at x1 y1 y2 y3 y4
      go_cut [] (fun wx=>OfCutP w w2 w4 wr xs[k] y ⟨bb.g+xs[k].amount,bb.c+(if y.kind = 1 then xs[k].amount else 0),bb.t,bb.i,bb.a⟩ wx)
      case first =>
       by_cases k1:y.kind = 1
       ·
        have k1':(y.kind == 1) = true:=by simp [k1]
        go_wp2
        go_meet
        have hz:=(C0.set_c (bb.c+xs[k].amount))
        simpa [k1] using hz
       ·
        have k1':(y.kind == 1) = false:=by simp [k1]
        go_wp2
        go_meet
        simpa [k1] using C0
      case rest =>
       clear r0 r1 r2 r3 r4 q0 q1 q2 q3 q4 x1 y1 y2 y3 y4 C0
       have C1:=hcut
       clear hcut
       obtain ⟨r0,r1,r2,r3,r4⟩:=C1.bs.cells
       obtain ⟨q0,q1,q2,q3,q4⟩:=C1.bs.frz
       have x1:=C1.xb.cell 1
       have y1:=C1.wg.cell 1
       have y2:=C1.wg.cell 2
       have y3:=C1.wg.cell 3
       have y4:=C1.wg.cell 4
       simp only [encW,List.getElem?_toArray,List.getElem?_cons_zero,List.getElem?_cons_succ] at x1 y1 y2 y3 y4
       go_upto_if 60 with fail
       go_cut [] (fun wx=>OfCutP w w2 w4 wr xs[k] y ⟨bb.g+xs[k].amount,bb.c+(if y.kind = 1 then xs[k].amount else 0),bb.t+(if y.taxable = true then xs[k].amount else 0),bb.i,bb.a⟩ wx)
       case first =>
        rcases k1:y.taxable with _ | _
        rotate_left
        ·
         go_wp2
         go_meet
         have hz:=(C1.set_t (bb.t+xs[k].amount))
         simpa [k1] using hz
        ·
         go_wp2
         go_meet
         simpa [k1] using C1
       case rest =>
        clear r0 r1 r2 r3 r4 q0 q1 q2 q3 q4 x1 y1 y2 y3 y4 C1
        have C2:=hcut
        clear hcut
        obtain ⟨r0,r1,r2,r3,r4⟩:=C2.bs.cells
        obtain ⟨q0,q1,q2,q3,q4⟩:=C2.bs.frz
        have x1:=C2.xb.cell 1
        have y1:=C2.wg.cell 1
        have y2:=C2.wg.cell 2
        have y3:=C2.wg.cell 3
        have y4:=C2.wg.cell 4
        simp only [encW,List.getElem?_toArray,List.getElem?_cons_zero,List.getElem?_cons_succ] at x1 y1 y2 y3 y4
        go_upto_if 68 with fail
        go_cut [] (fun wx=>OfCutP w w2 w4 wr xs[k] y ⟨bb.g+xs[k].amount,bb.c+(if y.kind = 1 then xs[k].amount else 0),bb.t+(if y.taxable = true then xs[k].amount else 0),bb.i+(if y.insured = true then xs[k].amount else 0),bb.a⟩ wx)
        case first =>
         rcases k1:y.insured with _ | _
         rotate_left
         ·
          go_wp2
          go_meet
          have hz:=(C2.set_i (bb.i+xs[k].amount))
          simpa [k1] using hz
         ·
          go_wp2
          go_meet
          simpa [k1] using C2
        case rest =>
         clear r0 r1 r2 r3 r4 q0 q1 q2 q3 q4 x1 y1 y2 y3 y4 C2
         have C3:=hcut
         clear hcut
         obtain ⟨r0,r1,r2,r3,r4⟩:=C3.bs.cells
         obtain ⟨q0,q1,q2,q3,q4⟩:=C3.bs.frz
         have x1:=C3.xb.cell 1
         have y4:=C3.wg.cell 4
         simp only [encW,List.getElem?_toArray,List.getElem?_cons_zero,List.getElem?_cons_succ] at x1 y4
         have hfin:∀ W',OfCutP w w2 w4 wr xs[k] y (addBs bb y xs[k].amount) W'→∃ k':Nat,k'≤xs.length∧Value.int .i64 ((k:Int)+1) = .int .i64 k'∧Hid (∀ j,(hj:j < xs.length)→j < k'→(findW ws xs[j].code).isSome = true)∧Bs W' w2.heap.size (sumB ws (xs.take k'))∧BddB (k' * 1000000000) (sumB ws (xs.take k'))∧Bs W' w.heap.size zeroB∧Below w2.heap.size w2 W':=by
          intro W' hC
          refine ⟨k+1,by omega,by go_num,HALL.out,by rw [EST.out]; exact hC.bs,?_,hC.rs,hC.bel⟩
          have e9:((k+1:Nat) : Int) * 1000000000 = (k:Int) * 1000000000+1000000000:=by omega
          rw [EST.out,e9]; exact hbd1
         have HFIN:=Lib.hid hfin
         clear hfin
         rcases k1:y.attachable with _ | _
         ·
          have C4:OfCutP w w2 w4 wr xs[k] y (addBs bb y xs[k].amount) wc:=by simpa [addBs,k1] using C3
          clear C3
          go_wp2
          go_roundw
          case rel =>
           have hf:=HFIN.out _ C4
           first | exact hf | ((repeat apply Exists.intro); exact ⟨hf,rfl⟩)
          case measure=>simp [intOf]; omega
         ·
          have C4:OfCutP w w2 w4 wr xs[k] y (addBs bb y xs[k].amount) (wc.setCell ⟨w2.heap.size,4,none⟩ (.int .i64 (bb.a+xs[k].amount))):=by simpa [addBs,k1] using C3.set_a (bb.a+xs[k].amount)
          clear C3
          go_wp2
          go_roundw
          case rel =>
           have hf:=HFIN.out _ C4
           first | exact hf | ((repeat apply Exists.intro); exact ⟨hf,rfl⟩)
          case measure=>simp [intOf]; omega
    ·
     have hSk:xs.take k = xs:=List.take_of_length_le (by omega)
     rw [hSk] at hBb hbd
     have hmiss:Hid (missing ws xs = false):=by
      rw [Hid,missing,List.any_eq_false]
      intro x hx
      obtain ⟨j,hj,rfl⟩:=List.mem_iff_getElem.1 hx
      have:=hall.out j hj (by omega)
      rw [Option.isSome_iff_ne_none] at this
      simpa using this
     obtain ⟨r0,r1,r2,r3,r4⟩:=hBb.cells
     obtain ⟨p0,p1,p2,p3,p4⟩:=hBr.cells
     obtain ⟨q0,q1,q2,q3,q4⟩:=hBr.frz
     have HBB:Hid (Below w.heap.size w wr):=hbel2.trans (hbel.mono (by omega))
     have HOF:Hid (ofErr ws xs xs = if amtsB (sumB ws xs) = false then 4 else 0):=by
      simp only [Hid,ofErr,HV.out,H0.out,hmiss.out,if_false,Bool.true_eq_false,Bool.false_eq_true,ne_eq,not_true_eq_false]
     have hw4:w.heap.size < wr.heap.size:=by omega
     clear hSk hall hbd
     generalize hbb:sumB ws xs = bb at *
     have HBBS:=Lib.hid hbb
     clear hbb
     go_wp2
     go_loop [95] (fun i=>∃ k:Nat,k≤5∧i = .int .i64 k∧Hid (∀ j,j < k→amtB (nthB bb j) = true)) (fun i=>5 - (intOf i).toNat)
     case atStart=>exact ⟨0,by omega,rfl,fun j hj=>absurd hj (by omega)⟩
     case round =>
      obtain ⟨m,hm,rfl,hok⟩:=hrel
      by_cases hm5:m < 5
      ·
       have hidx:=idx5 bb m hm5
       by_cases ha:amtB (nthB bb m) = true
       ·
        go_wp2_with (go_at_call 158; refine (isAmount_any _ _).mono ?_; rintro e w' ⟨rfl,rfl⟩)
        go_round
        case rel =>
         refine ⟨m+1,by omega,by go_num,fun j hj=>?_⟩
         rcases Nat.lt_or_ge j m with h1 | h1
         ·
          exact hok.out j h1
         ·
          obtain rfl:j = m:=by omega
          exact ha
        case measure=>simp [intOf]; omega
       ·
        have ha':amtB (nthB bb m) = false:=by simpa using ha
        have HE:Hid (ofErr ws xs xs = 4):=by rw [Hid,HOF.out,if_pos (amts_no hm5 ha')]
        clear ha
        go_wp2_with (go_at_call 158; refine (isAmount_any _ _).mono ?_; rintro e w' ⟨rfl,rfl⟩)
        have hfb:=(hBr.put zeroB)
        have hfB:Below w.heap.size w _:=below_put5 HBB.out (Nat.le_refl _) (.int .i64 0) (.int .i64 0) (.int .i64 0) (.int .i64 0) (.int .i64 0)
        simp only [zeroB] at hfb
        generalize World.setCell _ ⟨w.heap.size,4,none⟩ _ = WW at hfb hfB ⊢
        obtain ⟨z0,z1,z2,z3,z4⟩:=hfb.cells
        refine bodyPost_ret (v:=ofV ws xs xs) ?_ rfl ⟨rfl,hfB⟩
        rw [ofV,HE.out]
        simp [results,Tryz.results102,go_sem,z0,z1,z2,z3,z4,encBas,zeroB]
      ·
       have HE:Hid (ofErr ws xs xs = 0):=by rw [Hid,HOF.out,if_neg (by rw [amts_yes (fun j hj=>hok.out j (by omega))]; simp)]
       go_wp2
       have hfb:=(hBr.put bb)
       have hfB:Below w.heap.size w _:=below_put5 HBB.out (Nat.le_refl _) (.int .i64 bb.g) (.int .i64 bb.c) (.int .i64 bb.t) (.int .i64 bb.i) (.int .i64 bb.a)
       generalize World.setCell _ ⟨w.heap.size,4,none⟩ _ = WW at hfb hfB ⊢
       obtain ⟨z0,z1,z2,z3,z4⟩:=hfb.cells
       refine bodyPost_ret (v:=ofV ws xs xs) ?_ rfl ⟨rfl,hfB⟩
       rw [ofV,HE.out,if_pos rfl,HBBS.out]
       simp [results,Tryz.results102,go_sem,z0,z1,z2,z3,z4,encBas]
  ·
   have h0':(preErr xs != 0) = true:=by simpa using h0
   have HE:Hid (ofErr ws xs xs = preErr xs):=by
    rw [Hid,ofErr,if_neg (by simp [HV.out]),if_pos h0]
   have H0:=Lib.hid h0
   obtain ⟨p0,p1,p2,p3,p4⟩:=hB2.cells
   obtain ⟨q0,q1,q2,q3,q4⟩:=hB2.frz
   have HBB:=Lib.hid hbel2
   clear h0
   go_wp2
   have hfb:=(hB2.put zeroB)
   have hfB:Below w.heap.size w _:=below_put5 HBB.out (Nat.le_refl _) (.int .i64 0) (.int .i64 0) (.int .i64 0) (.int .i64 0) (.int .i64 0)
   simp only [zeroB] at hfb
   generalize World.setCell _ ⟨w.heap.size,4,none⟩ _ = WW at hfb hfB ⊢
   obtain ⟨z0,z1,z2,z3,z4⟩:=hfb.cells
   refine bodyPost_ret (v:=ofV ws xs xs) ?_ rfl ⟨rfl,hfB⟩
   rw [ofV,HE.out,if_neg H0.out]
   simp [results,Tryz.results102,go_sem,z0,z1,z2,z3,z4,encBas,zeroB]
 ·
  have hv':validB ws = false:=by simpa using hv
  have HE:Hid (ofErr ws xs xs = 1):=by rw [Hid,ofErr,if_pos hv']
  obtain ⟨p0,p1,p2,p3,p4⟩:=hB1.cells
  obtain ⟨q0,q1,q2,q3,q4⟩:=hB1.frz
  have HBB:=Lib.hid hbel1
  clear hv
  go_wp2
  have hfb:=(hB1.put zeroB)
  have hfB:Below w.heap.size w _:=below_put5 HBB.out (Nat.le_refl _) (.int .i64 0) (.int .i64 0) (.int .i64 0) (.int .i64 0) (.int .i64 0)
  simp only [zeroB] at hfb
  generalize World.setCell _ ⟨w.heap.size,4,none⟩ _ = WW at hfb hfB ⊢
  obtain ⟨z0,z1,z2,z3,z4⟩:=hfb.cells
  refine bodyPost_ret (v:=ofV ws xs xs) ?_ rfl ⟨rfl,hfB⟩
  rw [ofV,HE.out]
  simp [results,Tryz.results102,go_sem,z0,z1,z2,z3,z4,encBas,zeroB]
end Go.Proofs.YtlhkojcmcmkmaaaGreat
namespace Go.Proofs.YtlhkojcmcmkmaaaGreat
open Go.RowKit
def condS (p:ByteArray→Bool) : List Elem→Int
 | []=>0
 | x :: l=>(if p x.code = true then x.amount else 0)+condS p l
theorem condS_append (p:ByteArray→Bool) (l m : List Elem) : condS p (l++m) = condS p l+condS p m:=by
 induction l with
 | nil=>simp [condS]
 | cons a l ih=>simp only [List.cons_append,condS,ih]; omega
theorem condS_put (p:ByteArray→Bool) (l:List Elem) (e:Elem) : condS p (put l e) = condS p l+if p e.code = true then e.amount else 0:=by
 induction l with
 | nil=>simp [put,condS]
 | cons a l ih =>
  rw [put]
  split
  ·
   simp only [condS,ih]; omega
  ·
   split
   ·
    rename_i h
    have h':a.code = e.code:=by
     apply code_ext
     rw [ByteArray.toList_eq,ByteArray.toList_eq] at h; simpa using h
    simp only [condS,h']
    split <;> omega
   ·
    simp only [condS]; omega
theorem condS_foldl (p:ByteArray→Bool) (l:List Elem) : ∀ acc,condS p (l.foldl put acc) = condS p acc+condS p l:=by
 induction l with
 | nil=>intro acc; simp [condS]
 | cons a l ih=>intro acc; rw [List.foldl_cons,ih,condS_put]; simp only [condS]; omega
theorem condS_sums (p:ByteArray→Bool) (l:List Elem) : condS p (sumsP l) = condS p l:=by
 rw [sumsP,condS_foldl]; simp [condS]
def wageAt (ws:List WageT) (c:ByteArray) : WageT:=(findW ws c).getD zeroW
theorem foldl_stepB (ws:List WageT) (l:List Elem) : ∀ b : BasesT,l.foldl (stepB ws) b = ⟨b.g+condS (fun _=>true) l,b.c+condS (fun c=>decide ((wageAt ws c).kind = 1)) l,b.t+condS (fun c=>(wageAt ws c).taxable) l,b.i+condS (fun c=>(wageAt ws c).insured) l,b.a+condS (fun c=>(wageAt ws c).attachable) l⟩:=by
 induction l with
 | nil=>intro b; simp [condS]
 | cons x l ih =>
  intro b
  rw [List.foldl_cons,ih]
  simp only [stepB,addBs,condS,wageAt,if_true,Int.add_assoc]
  by_cases hk:((findW ws x.code).getD zeroW).kind = 1 <;> simp [hk] <;> (refine ⟨?_,?_,?_⟩ <;> congr)
theorem sumB_eq (ws:List WageT) (l:List Elem) : sumB ws l = ⟨condS (fun _=>true) l,condS (fun c=>decide ((wageAt ws c).kind = 1)) l,condS (fun c=>(wageAt ws c).taxable) l,condS (fun c=>(wageAt ws c).insured) l,condS (fun c=>(wageAt ws c).attachable) l⟩:=by
 rw [sumB,foldl_stepB]; simp [zeroB]
theorem sumB_sums (ws:List WageT) (l:List Elem) : sumB ws (sumsP l) = sumB ws l:=by
 rw [sumB_eq,sumB_eq]; simp only [condS_sums]
theorem missing_sums (ws:List WageT) (l:List Elem) : missing ws (sumsP l) = missing ws l:=by
 rw [Bool.eq_iff_iff,missing,missing,List.any_eq_true,List.any_eq_true]
 constructor
 ·
  rintro ⟨x,hx,h⟩
  obtain ⟨y,hy,e⟩:=sumsP_codes hx
  exact ⟨y,hy,by rw [e]; exact h⟩
 ·
  rintro ⟨y,hy,h⟩
  have hk:keyE (sumsP l) y.code.data.toList = true:=by
   rw [sumsP_key]; exact List.any_eq_true.2 ⟨y,hy,by simp⟩
  obtain ⟨x,hx,e⟩:=List.any_eq_true.1 hk
  have e':x.code = y.code:=code_ext (by simpa using e)
  exact ⟨x,hx,by rw [e']; exact h⟩
theorem ofV_sums (ws:List WageT) (l:List Elem) : ofV ws l (sumsP l) = ofV ws l l:=by
 have h:ofErr ws l (sumsP l) = ofErr ws l l:=by simp only [ofErr,sumB_sums,missing_sums]
 rw [ofV,ofV,h,sumB_sums]
end Go.Proofs.YtlhkojcmcmkmaaaGreat
namespace Go.Proofs.YtlhkojcmcmkmaaaGreat
open Go.RowKit Go.Sort Go.Shelf
theorem find_kind {ws:List WageT} (hv:validB ws = true) {c:ByteArray} (hf : (findW ws c).isSome = true) : ((findW ws c).getD zeroW).kind = 1 ∨ ((findW ws c).getD zeroW).kind = 2:=by
 obtain ⟨x,hx⟩:=Option.isSome_iff_exists.1 hf
 rw [hx]
 have hm:=List.mem_of_find?_eq_some (show ws.find? (hasC c) = some x from hx)
 simp only [validB,Bool.and_eq_true,decide_eq_true_eq] at hv
 obtain ⟨i,hi,rfl⟩:=List.mem_iff_getElem.1 hm
 have h2:=hv.2 i hi
 simp only [okAt,Bool.and_eq_true,Bool.or_eq_true,beq_iff_eq] at h2
 exact h2.1.1.2
def EarnK (w0:World) (g:Nat) (c:CalF) (s:CalS) (ls:List LineT) (b:BasesT) (ne:List LineT) (w' : World) : Prop :=
 ∃ v',CalI w0 g c { s with b:=b,lv:=v',left:=b.c } (ls++ne) w'
set_option maxRecDepth 100000 in
set_option maxHeartbeats 4000000 in
theorem earnMP32 {w0:World} {g:Nat} {c:CalF} {s:CalS} {ls:List LineT} {w:World} (h:CalI w0 g c s ls w) (hr:c.r.In w0) (E:Option Addr) (ec:Nat) (e:List Elem) (hE:SliceOf encE 2 w0 w0.heap.size E e) (hv:validB c.r.ws = true)
  (hz:∀ x ∈ e,x.code.size≤maxLen) (hel:e.length≤1000000) (hl:ls.length≤100) :
  Calls Tryz.prog 52 #[.pointer (some ⟨g,0,none⟩),.slice E e.length ec] w (StepPost w0 (ofErr c.r.ws e (sumsP e)) (EarnK w0 g c s ls (sumB c.r.ws (sumsP e)) (earnL c.r.ws ((sumsP e).filter nz)))):=by
 have HOF:Hid (∀ W,Below w0.heap.size w0 W→Calls Tryz.prog 102 #[.slice c.r.Aw c.r.ws.length c.r.cw,.slice E e.length ec] W fun x w'=>x = .returned (ofV c.r.ws e (sumsP e))∧Below W.heap.size W w'):=fun W hb=>by
  rw [ofV_sums]
  exact of_any c.r.Aw E c.r.cw ec c.r.ws e W (hr.ws.adv hb) (validB_facts hv).2 (by have:=(validB_facts hv).1; omega) (hE.adv hb) hz (by omega)
 have z0:w.cell? ⟨g,0,none⟩ = some (.slice c.r.Aw c.r.ws.length c.r.cw):=h.blk.cell 0
 obtain ⟨er,her⟩ : ∃ er,er = ofErr c.r.ws e (sumsP e):=⟨_,rfl⟩
 rw [← her]
 by_cases h0:er = 0
 rotate_left
 ·
  have HV:Hid (ofV c.r.ws e (sumsP e) = .tuple #[.agg #[.int .i64 0,.int .i64 0,.int .i64 0,.int .i64 0,.int .i64 0],.int .i64 er]):=by
   rw [Hid,ofV,← her,if_neg h0]; rfl
  rw [HV.out] at HOF
  have hbel:=h.bel
  clear h hr hE hv hz her HV
  go_enter Tryz.func52,Tryz.ntmps52
  go_wp2_with fail
  refine (HOF.out _ hbel).mono ?_
  rintro x w1 ⟨rfl,hb1⟩
  have hbel1:=bel_adv hbel hb1
  have hne:(er != 0) = true:=by simp [h0]
  go_upto_region 2 with fail
  have hbn:=below_new w1 (.cells #[.int .i64 0,.int .i64 0,.int .i64 0,.int .i64 0,.int .i64 0] 24)
  have hbel2:=bel_adv hbel1 hbn
  generalize w1.alloc (Obj.cells _ _) = W2 at hbel2 ⊢
  go_wp2
  go_ret
  exact ⟨rfl,hbel2,fun e=>absurd e h0⟩
 ·
  subst h0
  obtain ⟨_,hpre,hmis,hamt⟩:=ofErr_inv her.symm
  have hb:=amts_bd hamt
  have HV:Hid (ofV c.r.ws e (sumsP e) = .tuple #[.agg #[.int .i64 (sumB c.r.ws (sumsP e)).g,.int .i64 (sumB c.r.ws (sumsP e)).c,.int .i64 (sumB c.r.ws (sumsP e)).t,.int .i64 (sumB c.r.ws (sumsP e)).i,.int .i64 (sumB c.r.ws (sumsP e)).a],.int .i64 0]):=by
   rw [Hid,ofV,← her,if_pos rfl]; rfl
  rw [HV.out] at HOF
  have HMG:Hid (∀ W,Below w0.heap.size w0 W→Calls Tryz.prog 103 #[.slice E e.length ec] W fun x w'=>∃ A cap,x = .returned (.tuple #[.slice A ((sumsP e).filter nz).length cap,.int .i64 0])∧SliceOf encE 2 w' w'.heap.size A ((sumsP e).filter nz)∧(∀ a,A = some a→W.heap.size≤a.block)∧Below W.heap.size W w'):=fun W hb=>by
   have hm:mergeR e = (sumsP e).filter nz:=by rw [mergeR,if_pos hpre]
   have:=merge_anyF E ec e W (hE.adv hb) hz (by omega)
   rw [hm,hpre] at this
   exact this.mono fun _ _ ⟨A,cap,h1,h2,_,_,h5,h6⟩=>⟨A,cap,h1,h2,h5,h6⟩
  have HFI:Hid (∀ x ∈ (sumsP e).filter nz,∀ W,Below w0.heap.size w0 W→Calls Tryz.prog 74 #[.slice c.r.Aw c.r.ws.length c.r.cw,.string x.code] W fun e w'=>e = .returned (.tuple #[.agg (encW ((findW c.r.ws x.code).getD zeroW)).toArray,.bool true])∧Below W.heap.size W w'):=fun x hx W hb=>by
   have hs:(findW c.r.ws x.code).isSome = true:=by
    have:=List.any_eq_false.1 hmis x (mem_flt hx)
    cases hh:findW c.r.ws x.code <;> simp_all
   have:=find_any c.r.Aw c.r.cw c.r.ws x.code W (hr.ws.adv hb) (by have:=(validB_facts hv).1; omega)
   rwa [foundV,hs] at this
  have HKD:Hid (∀ x ∈ (sumsP e).filter nz,((findW c.r.ws x.code).getD zeroW).kind = 1 ∨ ((findW c.r.ws x.code).getD zeroW).kind = 2):=fun x hx=>by
   refine find_kind hv ?_
   have:=List.any_eq_false.1 hmis x (mem_flt hx)
   cases hh:findW c.r.ws x.code <;> simp_all
  have hlen:((sumsP e).filter nz).length≤128:=Nat.le_trans (List.length_filter_le _ _) (preErr_zero hpre).2
  have HLE:Hid (∀ k,(earnL c.r.ws (((sumsP e).filter nz).take k)).length≤128):=fun k=>by
   have:=List.length_filter_le nz (((sumsP e).filter nz).take k)
   simp only [earnL,List.length_map,List.length_take] at this ⊢
   omega
  have HN0:Hid (∀ x ∈ (sumsP e).filter nz,x.amount ≠ 0):=fun x hx=>by
   have:=(List.mem_filter.1 hx).2
   simpa [nz] using this
  have HI:=Lib.hid h
  have hbel:=h.bel
  clear h hr hE hv hz her HV hpre hmis hamt
  generalize (sumsP e).filter nz = mg at *
  generalize sumB c.r.ws (sumsP e) = b at *
  obtain ⟨⟨g0,g1⟩,⟨c0,c1⟩,⟨t0,t1⟩,⟨i0,i1⟩,⟨a0,a1⟩⟩:=hb
  go_enter Tryz.func52,Tryz.ntmps52
  go_wp2_with fail
  refine (HOF.out _ hbel).mono ?_
  rintro x w1 ⟨rfl,hb1⟩
  have hI1:=HI.out.adv hb1
  have hm1:=Mv.bel (g:=g) (v:=s.lv) hb1
  go_upto_region 2 with fail
  have hBb:=Blk.new w1 24 #[.int .i64 b.g,.int .i64 b.c,.int .i64 b.t,.int .i64 b.i,.int .i64 b.a]
  have hbn:=below_new w1 (.cells #[.int .i64 b.g,.int .i64 b.c,.int .i64 b.t,.int .i64 b.i,.int .i64 b.a] 24)
  have hgb:w1.heap.size ≠ g:=by have:=hI1.lt; omega
  have hvb:s.lv.ownBlock ≠ some w1.heap.size:=fun e=>by have:=(hI1.row _ e).2; omega
  have hmn:=Mv.bel (g:=g) (v:=s.lv) hbn
  have hI2:=hI1.adv hbn
  have hm2:=hm1.trans hmn
  generalize w1.heap.size = gb at *
  generalize w1.alloc (Obj.cells _ _) = W2 at hBb hI2 hm2 ⊢
  clear hI1 hm1 hmn hbn hb1 HI HOF
  go_wp2_with fail
  refine (HMG.out _ hI2.bel).mono ?_
  rintro x w3 ⟨A3,c3,rfl,hS3,hf3,hb3⟩
  have hL3:=Lst.new hS3 hf3 hI2.lt (fun q hq=>(hI2.row q hq).2)
  have hI3:=hI2.adv hb3
  have hB3:=hBb.adv hb3
  have HL3:Hid (Lst encE 2 w3 g s.lv A3 mg):=hL3
  clear hI2 hm2 hBb hS3 hf3 hb3 HMG hbel hL3
  go_wp2_with fail
  go_loopw [36] (fun i wr=>∃ (k:Nat) (v':Value),k≤mg.length∧i = .int .i64 k∧CalI w0 g c { s with lv:=v' } (ls++earnL c.r.ws (mg.take k)) wr∧Mv g s.lv w3 v' wr) (fun i _=>mg.length - (intOf i).toNat)
  case atStart=>exact ⟨0,s.lv,by omega,rfl,by simpa [earnL] using hI3,Mv.refl _ _ _⟩
  case round =>
   rename World=>wr
   obtain ⟨k,vl,hk,rfl,hI,hm⟩:=hrel
   have hBr:=hB3.mv hm hgb hvb
   have hvr:=hm.far hB3.lt hvb
   by_cases hlt:k < mg.length
   ·
    obtain ⟨bb,off,hAe,hbb,hc⟩:=(HL3.out.mv hm).sl.at_ hlt
    have c0:=hc 0 _ rfl
    have c1:=hc 1 _ rfl
    simp only [Nat.add_zero] at c0
    rw [hAe]
    have hmem:=List.getElem_mem hlt
    have HT2:Hid (earnL c.r.ws (mg.take (k+1)) = earnL c.r.ws (mg.take k)++[⟨kindP c.r.ws mg[k],mg[k].code,mg[k].amount⟩]):=by
     rw [Hid,List.take_succ_eq_append_getElem hlt,earnL_append]
     congr 1
     rw [earnL,List.filter_cons_of_pos (by simp [nz,HN0.out _ hmem])]; rfl
    have hki:(k:Int) < (mg.length:Int):=by omega
    have HFX:=Lib.hid (HFI.out _ hmem)
    have HK2:=Lib.hid (HKD.out _ hmem)
    have HKP:Hid (kindP c.r.ws mg[k] = if ((findW c.r.ws mg[k].code).getD zeroW).kind = 1 then 1 else 2):=by
     rw [Hid,kindP,earnB]; by_cases hh:((findW c.r.ws mg[k].code).getD zeroW).kind = 1 <;> simp [hh]
    have hx0:=HN0.out _ hmem
    have hl3:=HLE.out k
    clear hc hmem
    generalize mg[k] = x at *
    generalize hwt:(findW c.r.ws x.code).getD zeroW = wt at *
    have HL1:Hid (∀ kd,linesK kd [⟨x.code,x.amount⟩] = [⟨kd,x.code,x.amount⟩]):=fun kd=>linesK_one kd x.code hx0
    have hBo:=Blk.new wr 69 #[.string x.code,.int .i64 x.amount]
    have hbn:=below_new wr (.cells #[.string x.code,.int .i64 x.amount] 69)
    have hfr:vl.ownBlock ≠ some wr.heap.size:=fun e=>by have:=(hI.row _ e).2; omega
    have hgr:wr.heap.size ≠ g:=by have:=hI.lt; omega
    go_upto_region 10 with fail
    generalize wr.alloc (Obj.cells _ _) = W1 at hBo hbn ⊢
    have hI1:=hI.adv hbn
    have hm1:=hm.trans (Mv.bel hbn)
    clear hbn
    generalize wr.heap.size = go at *
    have hlt1:=hI1.lt
    have hlo:=hBo.lt
    have yy0:W1.cell? ⟨g,0,none⟩ = some (.slice c.r.Aw c.r.ws.length c.r.cw):=hI1.blk.cell 0
    have xx0:W1.cell? ⟨go,0,none⟩ = some (.string x.code):=hBo.cell 0
    clear hI hm c0 c1 hwt hx0
    go_upto_region 11 with fail
    refine wp_region_box1 (aE:=?aE1) (t:=77) (zs:=#[.string ⟨#[]⟩,.int .i64 0,.bool false,.bool false,.bool false,.int .i64 0]) [0,1,2,3,4,5,6,7,8,9,10] 11 12 13 #[.string wt.code,.int .i64 wt.kind,.bool wt.taxable,.bool wt.insured,.bool wt.attachable,.int .i64 wt.account] (.bool true) (by kernel_rfl) (by kernel_rfl) rfl (by kernel_rfl) (by kernel_rfl) (by rfl) (by kernel_rfl) (by kernel_rfl) (by kernel_rfl) (by kernel_rfl) rfl rfl rfl rfl rfl rfl rfl rfl rfl rfl rfl (fun _ _=>by go_simp) rfl (by kernel_rfl) rfl ?H1 ?E1 ?M1
    case H1 =>
     intro F hF inst
     simp only [M3.opsAt,List.getElem?_toArray,List.getElem?_cons_zero,List.getElem?_cons_succ]
     have e0:=BwC.cellB (F:=F) (a:=⟨g,0,none⟩) (by exact hlt1) yy0
     have d0:=BwC.cellB (F:=F) (a:=⟨go,0,none⟩) (by exact hlo) xx0
     repeat (first | go_big_quiet_step (first | (with_reducible exact BwC.call (stable_below _ _ (Nat.le_refl _)) hF _ (HFX.out _ (bel_adv hI1.bel (BwC.h _))))) | quiet_step (first | (with_reducible exact BwC.call (stable_below _ _ (Nat.le_refl _)) hF _ (HFX.out _ (bel_adv hI1.bel (BwC.h _))))))
     refine wpQuiet_nil ?_
     rfl
    case E1=>exact fun _=>⟨rfl,rfl,rfl⟩
    case M1 =>
     intro g2 w4 hg2 hG2 hb4
     try simp only [Act.put,List.setIfInBounds_toArray,List.set_cons_succ,List.set_cons_zero]
     have hI4:=hI1.adv hb4
     have hm4:=hm1.trans (Mv.bel hb4)
     have hBo4:=hBo.adv hb4
     have z1:w4.cell? ⟨g2,1,none⟩ = some (.int .i64 wt.kind):=hG2.cell 1
     have q0:w4.cell? ⟨go,0,none⟩ = some (.string x.code):=hBo4.cell 0
     have q1:w4.cell? ⟨go,1,none⟩ = some (.int .i64 x.amount):=hBo4.cell 1
     clear hI1 hm1 hBo hb4 yy0 xx0 HFX hG2 hBo4
     rcases HK2.out with hk1 | hk2
     ·
      have hkb:(wt.kind == 2) = false:=by simp [hk1]
      rw [HKP.out,if_pos hk1] at HT2
      go_wp2_with fail
      refine (lineP32 hI4 1 x.code x.amount (by simp; omega)).mono ?_
      rintro e w5 ⟨rfl,v5,hI5,hm5⟩
      have hm6:=hm4.trans hm5
      rw [HL1.out,List.append_assoc,← HT2.out] at hI5
      go_wp2
      go_roundw
      case rel =>
       have hfin:∃ (k':Nat) (v':Value),k'≤mg.length∧Value.int .i64 ((k:Int)+1) = .int .i64 k'∧CalI w0 g c { s with lv:=v' } (ls++earnL c.r.ws (mg.take k')) w5∧Mv g s.lv w3 v' w5:=⟨k+1,v5,by omega,by go_num,hI5,hm6⟩
       first | exact hfin | ((repeat apply Exists.intro); exact ⟨hfin,rfl⟩)
      case measure=>simp [intOf]; omega
     ·
      have hkb:(wt.kind == 2) = true:=by simp [hk2]
      rw [HKP.out,if_neg (by omega)] at HT2
      go_wp2_with fail
      refine (lineP32 hI4 2 x.code x.amount (by simp; omega)).mono ?_
      rintro e w5 ⟨rfl,v5,hI5,hm5⟩
      have hm6:=hm4.trans hm5
      rw [HL1.out,List.append_assoc,← HT2.out] at hI5
      go_wp2
      go_roundw
      case rel =>
       have hfin:∃ (k':Nat) (v':Value),k'≤mg.length∧Value.int .i64 ((k:Int)+1) = .int .i64 k'∧CalI w0 g c { s with lv:=v' } (ls++earnL c.r.ws (mg.take k')) w5∧Mv g s.lv w3 v' w5:=⟨k+1,v5,by omega,by go_num,hI5,hm6⟩
       first | exact hfin | ((repeat apply Exists.intro); exact ⟨hfin,rfl⟩)
      case measure=>simp [intOf]; omega
   ·
    obtain rfl:k = mg.length:=by omega
    rw [List.take_length] at hI
    have y27:wr.cell? ⟨g,27,none⟩ = some (.int .i64 s.b.g):=hI.blk.cell 27
    have y28:wr.cell? ⟨g,28,none⟩ = some (.int .i64 s.b.c):=hI.blk.cell 28
    have y29:wr.cell? ⟨g,29,none⟩ = some (.int .i64 s.b.t):=hI.blk.cell 29
    have y30:wr.cell? ⟨g,30,none⟩ = some (.int .i64 s.b.i):=hI.blk.cell 30
    have y31:wr.cell? ⟨g,31,none⟩ = some (.int .i64 s.b.a):=hI.blk.cell 31
    have f27:=hI.blk.frozen 27
    have f28:=hI.blk.frozen 28
    have f29:=hI.blk.frozen 29
    have f30:=hI.blk.frozen 30
    have f31:=hI.blk.frozen 31
    have z0:=hBr.cell 0
    have z1:=hBr.cell 1
    have z2:=hBr.cell 2
    have z3:=hBr.cell 3
    have z4:=hBr.cell 4
    simp only [nqg,nqh,nqi] at z0 z1 z2 z3 z4
    go_upto_region 17 with fail
    have hI5:=hI.putB b
    have hm5:=CalI.mvB (g:=g) (w:=wr) b vl
    generalize World.setCell _ ⟨g,31,none⟩ _ = W5 at hI5 hm5 ⊢
    have hB5:=hBr.mv hm5 hgb hvr
    have b1:W5.cell? ⟨gb,1,none⟩ = some (.int .i64 b.c):=hB5.cell 1
    have y33:W5.cell? ⟨g,33,none⟩ = some (.int .i64 s.left):=hI5.blk.cell 33
    have f33:=hI5.blk.frozen 33
    clear hI hm hBr hB5 z0 z1 z2 z3 z4 y27 y28 y29 y30 y31 f27 f28 f29 f30 f31
    go_wp2
    go_ret
    have hI6:=hI5.putLeft b.c
    exact ⟨rfl,hI6.bel,fun _=>⟨vl,hI6⟩⟩
end Go.Proofs.YtlhkojcmcmkmaaaGreat
