/- Joined texts: MapS Plain Merge. Conditions: as stated. -/
import Derived.Maps.RangeWalk
import Derived.Maps.OwnOps
import Derived.Maps.Ext
import Derived.Sort.KeysCollected
import Derived.Test.YtlhkojcmcmkmaaaGreatJR30b
import Derived.Test.YtlhkojcmcmkmaaaGreatJBox
import Derived.Test.YtlhkojcmcmkmaaaGreatJP32g
namespace Go.Proofs.YtlhkojcmcmkmaaaGreat
open Go.RowKit Go.Sort Go.Shelf Go.Maps
structure Col (K:List UInt8→Bool) (T:List UInt8→Int) (left:Lit→Bool) (ys:List Elem) : Prop where
 sound:∀ x ∈ ys,K x.code.data.toList = true∧x.amount = T x.code.data.toList∧x.amount ≠ 0∧left (key x.code) = false
 full:∀ c,K c = true→left (.string c) = false→amtB (T c) = true∧(T c ≠ 0→∃ x ∈ ys,x.code.data.toList = c)
 nodup:ys.Pairwise (fun a b=>a.code ≠ b.code)
theorem Col.start {D:DataW Unit} {K:List UInt8→Bool} {T:List UInt8→Int} (h:MapD D K T) : Col K T (Maps.has D) [] :=
 ⟨by simp,(fun c hc hl=>by rw [h.has c,hc] at hl; cases hl),List.Pairwise.nil⟩
theorem Col.step {K:List UInt8→Bool} {T:List UInt8→Int} {left:Lit→Bool} {ys:List Elem} (h:Col K T left ys) {s:ByteArray} {c:Int} (hl:left (key s) = true) (hK:K s.data.toList = true) (hT:T s.data.toList = c) (ha:amtB c = true) :
  (c ≠ 0→Col K T (fun z=>left z && !z.sameKey (key s)) (ys++[⟨s,c⟩]))∧(c = 0→Col K T (fun z=>left z && !z.sameKey (key s)) ys):=by
 have hself:(key s).sameKey (key s) = true:=WideAt.sameKey_self trivial
 have hsound:∀ x ∈ ys,K x.code.data.toList = true∧x.amount = T x.code.data.toList∧x.amount ≠ 0∧(left (key x.code) && !(key x.code).sameKey (key s)) = false:=by
  intro x hx
  obtain ⟨h1,h2,h3,h4⟩:=h.sound x hx
  exact ⟨h1,h2,h3,by simp [h4]⟩
 have hfull:∀ d,K d = true→(left (.string d) && !(Lit.string d).sameKey (key s)) = false→(amtB (T d) = true∧(T d ≠ 0→d ≠ s.data.toList→∃ x ∈ ys,x.code.data.toList = d)):=by
  intro d hd hld
  by_cases e:d = s.data.toList
  ·
   subst e
   exact ⟨by rw [hT]; exact ha,fun _ h=>absurd rfl h⟩
  ·
   have hne:(Lit.string d).sameKey (key s) = false:=sameKey_ne (fun e'=>e (by simpa [key] using e'))
   rw [hne] at hld
   simp at hld
   obtain ⟨g1,g2⟩:=h.full d hd hld
   exact ⟨g1,fun h0 _=>g2 h0⟩
 refine ⟨fun hc=>⟨fun x hx=>?_,fun d hd hld=>?_,?_⟩,fun hc=>⟨hsound,fun d hd hld=>?_,h.nodup⟩⟩
 ·
  rcases List.mem_append.1 hx with h1 | h1
  ·
   exact hsound x h1
  ·
   simp at h1
   subst h1
   exact ⟨hK,hT.symm,hc,by show (left (key s) && !(key s).sameKey (key s)) = false; rw [hself]; simp⟩
 ·
  obtain ⟨g1,g2⟩:=hfull d hd hld
  refine ⟨g1,fun h0=>?_⟩
  by_cases e:d = s.data.toList
  ·
   exact ⟨⟨s,c⟩,by simp,e.symm⟩
  ·
   obtain ⟨x,hx,hxe⟩:=g2 h0 e
   exact ⟨x,by simp [hx],hxe⟩
 ·
  rw [List.pairwise_append]
  refine ⟨h.nodup,List.pairwise_singleton _ _,fun a ha' b hb=>?_⟩
  simp at hb
  subst hb
  intro e
  have:=(h.sound a ha').2.2.2
  rw [show key a.code = key s by rw [e],hl] at this
  cases this
 ·
  obtain ⟨g1,g2⟩:=hfull d hd hld
  refine ⟨g1,fun h0=>?_⟩
  by_cases e:d = s.data.toList
  ·
   subst e; rw [hT] at h0; exact absurd hc h0
  ·
   exact g2 h0 e
def SumsPost (K:List UInt8→Bool) (T:List UInt8→Int) (n:Nat) (w:World) (e:Ending) (w' : World) : Prop :=
 Below w.heap.size w w'∧(((∃ c,K c = true∧amtB (T c) = false)∧e = .returned (.tuple #[.slice none 0 0,.int .i64 4])) ∨
  ((∀ c,K c = true→amtB (T c) = true)∧∃ A cap ys,e = .returned (.tuple #[.slice A ys.length cap,.int .i64 0])∧SliceOf encE 2 w' w'.heap.size A ys∧ys.length≤n∧ys.length≤cap∧cap≤maxLen∧(∀ a,A = some a→w.heap.size≤a.block) ∧
   ys.Pairwise (fun a b=>lessE a b = true)∧∀ x:Elem,x ∈ ys ↔ (K x.code.data.toList = true∧x.amount = T x.code.data.toList∧x.amount ≠ 0)))
set_option maxRecDepth 100000 in
set_option maxHeartbeats 2000000 in
theorem sumsG_any (B n : Nat) (D:DataW Unit) (K:List UInt8→Bool) (T:List UInt8→Int) (w:World) (hown:w.ownsMap Tryz.prog 9 (plainElem (H:=Unit) Tryz.prog 3) B n D) (hD:MapD D K T) (hn:n≤100000) :
  Calls Tryz.prog 159 #[.map (some B)] w (SumsPost K T n w):=by
 have hBl:B < w.heap.size:=by
  obtain ⟨es,clock,hb,_⟩:=hown
  exact (Array.getElem?_eq_some_iff.1 hb).1
 have hsize:Maps.size D≤n:=by
  obtain ⟨es,clock,_,_,hn',rfl⟩:=hown
  rw [Maps.size_eq,length_insertAll]
  simpa using hn'
 go_enter Tryz.func159,Tryz.ntmps159
 go_wp2_with (at_range; refine wpList_range_own _ (by rfl) _ 181 (by rfl) 9 3 lawS Tryz.underlying181 (plainElem (H:=Unit) Tryz.prog 3) B n D (by rfl) hown ?_; intro w0 hrg0 hg0 hs0)
 go_frame
 go_loopw [4,5] (fun v _ wr=>∃ left cnt ys,wr.ranges Tryz.prog 9 (plainElem (H:=Unit) Tryz.prog 3) B w.heap.size n D left cnt∧Own encE 2 69 wr (w.heap.size+1) v ys∧Col K T left ys∧ys.length+cnt≤n∧Below w.heap.size w wr) (fun _ _ wr=>wr.rangeLeft B w.heap.size)
 case atStart=>exact ⟨_,_,[],hrg0,Own.nil_ _ _,Col.start hD,by simpa using hsize,only_below hg0 (Nat.le_refl _) (by simp)⟩
 case round =>
  obtain ⟨left,cnt,ys,hrg,hrow,hcol,hlen,hbel⟩:=hrel
  have hbs:=hbel.size
  have hrs:=hrg.lt
  go_wp2_with (at_next; refine wpList_next_ranges _ (by rfl) _ (by rfl) 9 lawS (plainElem (H:=Unit) Tryz.prog 3) Value.string (Value.int .i64) (fun key kl hk=>by obtain ⟨x,hx,_⟩:=Maps.keyOf_str Tryz.underlying9 hk; exact ⟨_,hx⟩) (fun v y hv=>by obtain ⟨c,hc,_⟩:=plainElem_int_inv Tryz.underlying3 hv; exact ⟨c,hc⟩) B w.heap.size n _ _ _ (by rfl) hrg ?_ ?_)
  ·
   intro hc0 hl0
   obtain ⟨A5,c5,rfl,hS5,hB5,hlc5,hcm5⟩:=hrow.form2 encE_len
   go_wp2_with fail
   refine (sortW_any A5 c5 (w.heap.size+1) ys _ hrow (by omega)).mono ?_
   rintro e w1 ⟨rfl,zs,hp,hsd,hSz,hb1⟩
   have hlz:=hp.length_eq
   go_wp2
   go_ret2
   refine ⟨hbel.trans (hb1.mono (by omega)),.inr ⟨fun c hc=>(hcol.full c hc (hl0 _)).1,A5,c5,zs,by rw [hlz]; rfl,hSz,by omega,by omega,hcm5,(fun a ha=>by have:=hB5 a ha; omega),?_,fun x=>?_⟩⟩
   ·
    exact strict_of hsd (hcol.nodup.perm hp.symm (fun h e=>h e.symm))
   ·
    rw [hp.mem_iff]
    refine ⟨fun hx=>⟨(hcol.sound x hx).1,(hcol.sound x hx).2.1,(hcol.sound x hx).2.2.1⟩,fun ⟨h1,h2,h3⟩=>?_⟩
    obtain ⟨y,hy,hye⟩:=(hcol.full _ h1 (hl0 _)).2 (by rw [← h2]; exact h3)
    have hyx:y = x:=by
     obtain ⟨_,g2,_⟩:=hcol.sound y hy
     have hc:y.code = x.code:=key_inj (by simp [key,hye])
     obtain ⟨a,b⟩:=y
     obtain ⟨c,d⟩:=x
     simp only at hc g2 h2
     subst hc
     rw [g2,h2]
    rw [← hyx]; exact hy
  ·
   intro s c kl yd yp w2 cnt2 hkey hlk hv hat hrg2 hlt hg2 hs2 hen
   obtain ⟨x',hx',rfl,hxl⟩:=Maps.keyOf_str Tryz.underlying9 hkey
   have hsx:x' = s.data.toList:=by
    have h1:s = ⟨x'.toArray⟩:=by simpa [encStr] using hx'
    rw [h1]
   subst hsx
   have hyd:yd = i64L c:=by
    obtain ⟨c',h1,h2,_⟩:=plainElem_int_inv Tryz.underlying3 hv
    injection h1 with _ h1
    subst h1
    injection h2
   have hKs:K s.data.toList = true:=by rw [← hD.has]; exact has_true_of_atKey hat
   have hTs:T s.data.toList = c:=by
    have h1:=hD.at_ s.data.toList
    rw [hat,hyd] at h1
    injection h1 with h1
    injection h1 with _ h1
    exact h1.symm
   have hlk':left (key s) = true:=hlk
   have hrow2:=hrow.kept hg2 (by intro g e; injection e; omega)
   have hbel2:Below w.heap.size w w2:=hbel.grown hg2 hbs (by intro g e; injection e; omega)
   have hbs2:=hbel2.size
   have hrs2:=hrg2.lt
   have HT:=Lib.hid hTs
   clear hs2 hat hkey hx' hv hyd hTs
   by_cases ha:amtB c = true
   ·
    have HST:=Lib.hid (hcol.step hlk' hKs HT.out ha)
    by_cases hc0:c = 0
    ·
     have hn0:(c != 0) = false:=by simp [hc0]
     have hcol2:=HST.out.2 hc0
     clear hc0
     go_wp2_with (go_at_call 158; refine (isAmount_any _ _).mono ?_; rintro e w' ⟨rfl,rfl⟩)
     go_roundw
     case rel =>
      have hf:∃ left cnt ys,w2.ranges Tryz.prog 9 (plainElem (H:=Unit) Tryz.prog 3) B w.heap.size n D left cnt∧Own encE 2 69 w2 (w.heap.size+1) u4 ys∧Col K T left ys∧ys.length+cnt≤n∧Below w.heap.size w w2:=⟨_,_,ys,hrg2,hrow2,hcol2,by omega,hbel2⟩
      first | exact hf | ((repeat apply Exists.intro); exact ⟨hf,rfl⟩)
     case measure=>rw [hrg2.left_eq,hrg.left_eq]; omega
    ·
     have hn0:(c != 0) = true:=by simp [hc0]
     have hcol2:=HST.out.1 hc0
     have hne:some B ≠ u4.ownBlock:=fun e=>by have:=(hrow2.block_lt e.symm).1; omega
     have hne2:some w.heap.size ≠ u4.ownBlock:=fun e=>by have:=(hrow2.block_lt e.symm).1; omega
     have hr4:=fun g hg=>(hrow2.block_lt (g:=g) hg).1
     clear hc0
     go_wp2_with (first | (go_at_call 158; refine (isAmount_any _ _).mono ?_; rintro e w' ⟨rfl,rfl⟩) | (at_builtin; (refine wpList_append_one _ _ 51 ⟨s,c⟩ _ 24 _ infoE Tryz.underlying51 hrow2 encE_len (by omega) rfl (encE_one _) (by omega) (by omega) (by omega) (by rfl) (by rfl) (by rfl) (by rfl) (by simp) (by rfl) ?_); intro v2 w6 hown7 hg7))
     go_roundw
     case rel =>
      have hf:∃ left cnt ys,w6.ranges Tryz.prog 9 (plainElem (H:=Unit) Tryz.prog 3) B w.heap.size n D left cnt∧Own encE 2 69 w6 (w.heap.size+1) v2 ys∧Col K T left ys∧ys.length+cnt≤n∧Below w.heap.size w w6:=⟨_,_,_,hrg2.kept hg7 hne hne2,hown7,hcol2,by simp; omega,hbel2.grown hg7 hbs2 (fun g hg=>by have:=hr4 g hg; omega)⟩
      first | exact hf | ((repeat apply Exists.intro); exact ⟨hf,rfl⟩)
     case measure=>rw [(hrg2.kept hg7 hne hne2).left_eq,hrg.left_eq]; omega
   ·
    have ha':amtB c = false:=by simpa using ha
    clear ha
    go_wp2_with (go_at_call 158; refine (isAmount_any _ _).mono ?_; rintro e w' ⟨rfl,rfl⟩)
    go_ret2
    exact ⟨hbel2,.inl ⟨⟨_,hKs,by rw [HT.out]; exact ha'⟩,rfl⟩⟩
end Go.Proofs.YtlhkojcmcmkmaaaGreat
namespace Go.Proofs.YtlhkojcmcmkmaaaGreat
open Go.RowKit
theorem over_iff (l:List Elem) : (sumsP l).any (fun x=>!amtB x.amount) = true ↔ ∃ c,keyE l c = true∧amtB (totE l c) = false:=by
 rw [List.any_eq_true]
 constructor
 ·
  rintro ⟨x,hx,h⟩
  rw [mem_sorted (sumsP_sorted l),sumsP_key,sumsP_tot] at hx
  exact ⟨_,hx.1,by rw [← hx.2]; simpa using h⟩
 ·
  rintro ⟨c,hc,h⟩
  obtain ⟨x,hx,he⟩:=List.any_eq_true.1 hc
  have he':x.code.data.toList = c:=by simpa using he
  refine ⟨⟨x.code,totE l c⟩,?_,by simp [h]⟩
  rw [mem_sorted (sumsP_sorted l),sumsP_key,sumsP_tot]
  exact ⟨by show keyE l x.code.data.toList = true; rw [he']; exact hc,by show totE l c = totE l x.code.data.toList; rw [he']⟩
end Go.Proofs.YtlhkojcmcmkmaaaGreat
namespace Go.Proofs.YtlhkojcmcmkmaaaGreat
open Go.RowKit Go.Sort Go.Shelf Go.Maps
theorem totE_bd (l:List Elem) (c:List UInt8) (h : ∀ x ∈ l,amtB x.amount = true) : -(l.length * 1000000000 : Int)≤totE l c∧totE l c≤l.length * 1000000000:=by
 induction l with
 | nil=>simp [totE]
 | cons a l ih =>
  have h1:=ih (fun x hx=>h x (by simp [hx]))
  have h2 : -1000000000≤a.amount∧a.amount≤1000000000:=by have:=h a (by simp); simpa [amtB] using this
  simp only [totE,List.length_cons]
  have e9:((l.length+1:Nat) : Int) * 1000000000 = (l.length:Int) * 1000000000+1000000000:=by omega
  rw [e9]
  split <;> omega
def MergePost (m:List Elem) (er:Int) (w:World) (e:Ending) (w' : World) : Prop :=
 ∃ A cap,e = .returned (.tuple #[.slice A m.length cap,.int .i64 er])∧SliceOf encE 2 w' w'.heap.size A m∧m.length≤cap∧cap≤maxLen∧Below w.heap.size w w'
def MergePostF (m:List Elem) (er:Int) (w:World) (e:Ending) (w' : World) : Prop :=
 ∃ A cap,e = .returned (.tuple #[.slice A m.length cap,.int .i64 er])∧SliceOf encE 2 w' w'.heap.size A m∧m.length≤cap∧cap≤maxLen∧(∀ a,A = some a→w.heap.size≤a.block)∧Below w.heap.size w w'
set_option maxRecDepth 100000 in
set_option maxHeartbeats 4000000 in
theorem merge_anyF (A:Option Addr) (cap:Nat) (xs:List Elem) (w:World) (h:SliceOf encE 2 w w.heap.size A xs) (hz : ∀ x ∈ xs,x.code.size≤maxLen) (hl:xs.length≤9223372036854775806) :
  Calls Tryz.prog 103 #[.slice A xs.length cap] w (MergePostF (mergeR xs) (preErr xs) w):=by
 have HZ:=Lib.hid hz; clear hz
 have fail_:∀ (n:Int) (W:World),n ≠ 0→preErr xs = n→Below w.heap.size w W→MergePostF (mergeR xs) (preErr xs) w (Ending.returned (.tuple #[.slice none 0 0,.int .i64 n])) W:=by
  intro n W hn he hb
  have hm:mergeR xs = []:=by rw [mergeR,if_neg (by rw [he]; exact hn)]
  rw [hm,he]
  exact ⟨none,0,rfl,SliceOf.nil_,by simp,by unfold maxLen; omega,(fun a ha=>by cases ha),hb⟩
 have FAIL:=Lib.hid fail_
 clear fail_
 have hmm:=@run_makeMap Tryz.prog
 by_cases hlen:128 < xs.length
 ·
  have HP:Hid (preErr xs = 3):=by simp only [Hid,preErr,if_pos hlen]
  go_enter Tryz.func103,Tryz.ntmps103
  go_wp2
  go_ret2
  exact FAIL.out 3 _ (by omega) HP.out (Below.refl _ _)
 ·
  have hlen':xs.length≤128:=by omega
  clear hlen hl
  go_enter Tryz.func103,Tryz.ntmps103
  go_wp2
  go_loopw [16] (fun i wr=>∃ k:Nat,k≤xs.length∧i = .int .i64 k∧Hid (∀ j,(hj:j < xs.length)→j < k→nameB xs[j].code = true)∧Below w.heap.size w wr) (fun i _=>xs.length - (intOf i).toNat)
  case atStart=>exact ⟨0,by omega,rfl,fun j _ hj=>absurd hj (by omega),Below.refl _ _⟩
  case round =>
   obtain ⟨k,hk,rfl,hall,hbel⟩:=hrel
   have hbs:=hbel.size
   by_cases hlt:k < xs.length
   ·
    obtain ⟨b,off,rfl,hb,hc⟩:=(h.below hbel).at_ hlt
    have c0:=hc 0 _ rfl
    have c1:=hc 1 _ rfl
    simp only [Nat.add_zero] at c0
    clear hc
    have hzk:=HZ.out _ (List.getElem_mem hlt)
    by_cases hn:nameB xs[k].code = true
    ·
     go_wp2_with (go_at_call 82; refine (isName_any _ _ hzk).mono ?_; rintro e w' ⟨rfl,rfl⟩)
     go_roundw
     case rel =>
      refine ⟨k+1,by omega,by go_num,fun j hj hjk=>?_,hbel.alloc hbs _⟩
      rcases Nat.lt_or_ge j k with h1 | h1
      ·
       exact hall.out j hj h1
      ·
       obtain rfl:j = k:=by omega
       exact hn
     case measure=>simp [intOf]; omega
    ·
     have hn':nameB xs[k].code = false:=by simpa using hn
     have HP:Hid (preErr xs = 7):=by
      have h7:xs.any (fun x=>!nameB x.code) = true:=List.any_eq_true.2 ⟨xs[k],List.getElem_mem _,by simp [hn']⟩
      simp only [Hid,preErr,if_neg (show ¬ 128 < xs.length by omega),h7,if_true]
     clear hn
     go_wp2_with (go_at_call 82; refine (isName_any _ _ hzk).mono ?_; rintro e w' ⟨rfl,rfl⟩)
     go_ret2
     exact FAIL.out 7 _ (by omega) HP.out (hbel.alloc hbs _)
   ·
    have h7:Hid (xs.any (fun x=>!nameB x.code) = false):=by
     rw [Hid,List.any_eq_false]
     intro x hx
     obtain ⟨j,hj,rfl⟩:=List.mem_iff_getElem.1 hx
     simp [hall.out j hj (by omega)]
    obtain ⟨wo,rfl⟩ : ∃ wo:World,wo = wr:=⟨_,rfl⟩
    go_wp2
    clear hall hk hlt
    go_loopw [27] (fun i wr=>∃ k:Nat,k≤xs.length∧i = .int .i64 k∧Hid (∀ j,(hj:j < xs.length)→j < k→amtB xs[j].amount = true)∧Below w.heap.size w wr) (fun i _=>xs.length - (intOf i).toNat)
    case atStart=>exact ⟨0,by omega,rfl,fun j _ hj=>absurd hj (by omega),hbel⟩
    case round =>
     obtain ⟨k,hk,rfl,hall,hbel⟩:=hrel
     have hbs:=hbel.size
     by_cases hlt:k < xs.length
     ·
      obtain ⟨b,off,rfl,hb,hc⟩:=(h.below hbel).at_ hlt
      have c0:=hc 0 _ rfl
      have c1:=hc 1 _ rfl
      simp only [Nat.add_zero] at c0
      clear hc
      by_cases hn:amtB xs[k].amount = true
      ·
       go_wp2_with (go_at_call 158; refine (isAmount_any _ _).mono ?_; rintro e w' ⟨rfl,rfl⟩)
       go_roundw
       case rel =>
        refine ⟨k+1,by omega,by go_num,fun j hj hjk=>?_,hbel.alloc hbs _⟩
        rcases Nat.lt_or_ge j k with h1 | h1
        ·
         exact hall.out j hj h1
        ·
         obtain rfl:j = k:=by omega
         exact hn
       case measure=>simp [intOf]; omega
      ·
       have hn':amtB xs[k].amount = false:=by simpa using hn
       have HP:Hid (preErr xs = 2):=by
        have h2:xs.any (fun x=>!amtB x.amount) = true:=List.any_eq_true.2 ⟨xs[k],List.getElem_mem _,by simp [hn']⟩
        simp only [Hid,preErr,if_neg (show ¬ 128 < xs.length by omega),h7.out,h2,if_true,Bool.false_eq_true,if_false]
       clear hn
       go_wp2_with (go_at_call 158; refine (isAmount_any _ _).mono ?_; rintro e w' ⟨rfl,rfl⟩)
       go_ret2
       exact FAIL.out 2 _ (by omega) HP.out (hbel.alloc hbs _)
     ·
      have h2a:Hid (∀ x ∈ xs,amtB x.amount = true):=by
       intro x hx
       obtain ⟨j,hj,rfl⟩:=List.mem_iff_getElem.1 hx
       exact hall.out j hj (by omega)
      have h2:Hid (xs.any (fun x=>!amtB x.amount) = false):=by
       rw [Hid,List.any_eq_false]
       intro x hx
       simp [h2a.out x hx]
      obtain ⟨wp,rfl⟩ : ∃ wp:World,wp = wr:=⟨_,rfl⟩
      go_wp2
      clear hall hk hlt
      have hmap0:(wp.alloc (.map #[] 0)).ownsMap Tryz.prog 9 (plainElem (H:=Unit) Tryz.prog 3) wp.heap.size 0 (.map []):=World.ownsMap_made _ _ _ _
      have hbel0:Below w.heap.size w (wp.alloc (.map #[] 0)):=hbel.alloc hbs _
      go_loopw [39] (fun i wr=>∃ (k:Nat) (D:DataW Unit),k≤xs.length∧i = .int .i64 k∧wr.ownsMap Tryz.prog 9 (plainElem (H:=Unit) Tryz.prog 3) wp.heap.size k D∧MapD D (keyE (xs.take k)) (totE (xs.take k))∧Below w.heap.size w wr) (fun i _=>xs.length - (intOf i).toNat)
      case atStart=>exact ⟨0,.map [],by omega,rfl,hmap0,MapD.empty,hbel0⟩
      case round =>
       clear hmap0 hbel0
       obtain ⟨k,D,hk,rfl,hown,hD,hbel3⟩:=hrel
       have hbs3:=hbel3.size
       by_cases hlt:k < xs.length
       ·
        obtain ⟨b,off,rfl,hb,hc⟩:=(h.below hbel3).at_ hlt
        have c0:=hc 0 _ rfl
        have c1:=hc 1 _ rfl
        simp only [Nat.add_zero] at c0
        clear hc
        have hzk:=HZ.out _ (List.getElem_mem hlt)
        have hkey:keyOf Tryz.prog 9 (.string xs[k].code) = some (key xs[k].code):=WideMaps.keyOf_string_mk Tryz.underlying9 hzk
        have hown1:=hown.kept (World.grownBy_alloc wr (Obj.cells #[Value.string xs[k].code,Value.int IntKind.i64 xs[k].amount] 69) none) (by simp)
        have hTb:=totE_bd (xs.take k) xs[k].code.data.toList (fun x hx=>h2a.out x (List.mem_of_mem_take hx))
        have hTl:(xs.take k).length≤128:=by simp; omega
        have hxk : -1000000000≤xs[k].amount∧xs[k].amount≤1000000000:=by have:=h2a.out _ (List.getElem_mem hlt); simpa [amtB] using this
        obtain ⟨hxk1,hxk2⟩:=hxk
        have hat0:=hD.at_ xs[k].code.data.toList
        have hT1 : -1000000000000≤totE (xs.take k) xs[k].code.data.toList:=by omega
        have hT2:totE (xs.take k) xs[k].code.data.toList≤1000000000000:=by omega
        have hD1:=hD.put_ (K':=keyE (xs.take (k+1))) (T':=totE (xs.take (k+1))) xs[k].code (totE (xs.take k) xs[k].code.data.toList+xs[k].amount) (keyE_take xs k hlt) (fun c=>by
         rw [totE_take xs k hlt]
         split
         ·
          rename_i e; rw [← e]
         ·
          omega)
        have HD1:=Lib.hid hD1
        have HAT:=Lib.hid hat0
        generalize totE (xs.take k) xs[k].code.data.toList = t0 at hT1 hT2 HD1 HAT
        clear hTb hTl hat0 hD hD1
        go_wp2_with (first
         | (at_lookup; refine wpList_lookup_own_int _ (by rfl) _ _ 181 (by rfl) 9 3 .i64 lawS Tryz.underlying181 Tryz.underlying3 (zeroI _) wp.heap.size k D (by rfl) hown1 _ _ (by rfl) hkey ?_; intro c hat hwc; obtain rfl:c = t0:=(by have h1:=HAT.out; rw [show Lit.string xs[k].code.data.toList = key xs[k].code from rfl,hat] at h1; injection h1 with h1; injection h1))
         | (at_mapUpdate; refine wpList_mapUpdate_own _ (by rfl) _ _ _ 181 (by rfl) 9 3 lawS Tryz.underlying181 _ wp.heap.size k D (by rfl) hown1 (by unfold maxLen; omega) _ _ _ (by rfl) (by rfl) hkey _ [] (plainElem_int Tryz.underlying3 (wf64 (by omega) (by omega))) ?_; intro w1 hown2 hgrow1))
        go_roundw
        case rel=>exact ⟨k+1,_,by omega,by go_num,hown2,HD1.out,(hbel3.alloc hbs3 _).grown hgrow1 (by simp; omega) (fun g e=>by injection e; omega)⟩
        case measure=>simp [intOf]; omega
       ·
        have ek:xs.take k = xs:=List.take_of_length_le (by omega)
        rw [ek] at hD
        go_wp2_with fail
        refine (sumsG_any wp.heap.size k D _ _ _ hown hD (by omega)).mono ?_
        rintro e w4 ⟨hb4,⟨hbad,rfl⟩ | ⟨hgood,A4,cap4,ys,rfl,hS4,hyn,hyc,hcm4,hfr4,hys,hmem⟩⟩
        ·
         have HP:Hid (preErr xs = 4):=by
          have h4:=(over_iff xs).2 hbad
          simp only [Hid,preErr,if_neg (show ¬ 128 < xs.length by omega),h7.out,h2.out,h4,if_true,Bool.false_eq_true,if_false]
         go_wp2
         go_ret2
         exact FAIL.out 4 _ (by omega) HP.out (hbel3.trans (hb4.mono hbs3))
        ·
         have HP:Hid (preErr xs = 0):=by
          have h4:(sumsP xs).any (fun x=>!amtB x.amount) = false:=by
           cases hh:(sumsP xs).any (fun x=>!amtB x.amount)
           ·
            rfl
           ·
            obtain ⟨c,hc1,hc2⟩:=(over_iff xs).1 hh
            rw [hgood c hc1] at hc2
            cases hc2
          simp only [Hid,preErr,if_neg (show ¬ 128 < xs.length by omega),h7.out,h2.out,h4,Bool.false_eq_true,if_false]
         have HM:Hid (mergeR xs = ys):=by rw [Hid,mergeR,if_pos HP.out,← merged_eq hys hmem]
         go_wp2
         go_ret2
         rw [HM.out,HP.out]
         exact ⟨A4,cap4,rfl,hS4,hyc,hcm4,(fun a ha=>by have:=hfr4 a ha; have:=hbel3.size; omega),hbel3.trans (hb4.mono hbs3)⟩
theorem merge_any (A:Option Addr) (cap:Nat) (xs:List Elem) (w:World) (h:SliceOf encE 2 w w.heap.size A xs) (hz : ∀ x ∈ xs,x.code.size≤maxLen) (hl:xs.length≤9223372036854775806) :
  Calls Tryz.prog 103 #[.slice A xs.length cap] w (MergePost (mergeR xs) (preErr xs) w) :=
 (merge_anyF A cap xs w h hz hl).mono fun _ _ ⟨A,c,h1,h2,h3,h4,_,h6⟩=>⟨A,c,h1,h2,h3,h4,h6⟩
end Go.Proofs.YtlhkojcmcmkmaaaGreat
