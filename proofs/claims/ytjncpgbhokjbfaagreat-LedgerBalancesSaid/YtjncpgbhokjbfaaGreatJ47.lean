/- Joined texts: MergeL Collect MergeP. Conditions: as stated. -/
import Derived.StillTailTactics
import Derived.RegionTactic
import Derived.BigRegion
import Derived.Test.YtjncpgbhokjbfaaGreatJ46
namespace Go.Proofs.YtjncpgbhokjbfaaGreat
open Go.RowKit
def anyOver (l:List LineT) : Bool:=l.any fun x=>!maxN x.amount
def mErr (l:List LineT) : Int:=if 65536 < l.length then 3 else if l.any (fun x=>!formB x) then 1 else if anyOver (RL.sums l) then 4 else 0
def mR (l:List LineT) : List LineT:=if mErr l = 0 then (RL.sums l).filter RL.nz else []
def cmpL (x y : List LineT) : List LineT:=(x.map RL.neg).foldl RL.put y
def cErr (a b : List LineT) : Int:=if mErr a ≠ 0 then mErr a else if mErr b ≠ 0 then mErr b else if anyOver (cmpL (mR a) (mR b)) then 4 else 0
def cR (a b : List LineT) : List LineT:=if cErr a b = 0 then (cmpL (mR a) (mR b)).filter RL.nz else []
def trimR (l:List LineT) : List LineT:=if anyOver l then [] else l.filter RL.nz
theorem over_yes {l:List LineT} {k:Nat} (h:k < l.length) (hn : ¬ maxN l[k].amount = true) : anyOver l = true:=List.any_eq_true.2 ⟨l[k],List.getElem_mem _,by simpa using hn⟩
theorem over_no {l:List LineT} (h : ∀ j,(hj:j < l.length)→maxN l[j].amount = true) : anyOver l = false:=by
 rw [anyOver,List.any_eq_false]
 intro x hx
 obtain ⟨j,hj,rfl⟩:=List.mem_iff_getElem.1 hx
 simp [h j hj]
set_option maxRecDepth 100000 in
set_option maxHeartbeats 4000000 in
theorem trim_any (A:Option Addr) (cap:Nat) (L:List LineT) (w:World) (h:SliceOf encL 3 w w.heap.size A L) (hl:L.length≤1000000) :
  Calls Tryz.prog 67 #[.slice A L.length cap] w fun r w'=>∃ v,r = .returned (.tuple #[v,.bool (!anyOver L)])∧Own encL 3 53 w' w.heap.size v (trimR L)∧Below w.heap.size w w':=by
 go_enter Tryz.func67,Tryz.ntmps67
 go_wp2
 go_loopw [4,5] (fun v i wr=>∃ k:Nat,k≤L.length∧i = .int .i64 k∧Hid (∀ j,(hj:j < L.length)→j < k→maxN L[j].amount = true)∧Own encL 3 53 wr w.heap.size v ((L.take k).filter RL.nz)∧Below w.heap.size w wr) (fun _ i _=>L.length - (intOf i).toNat)
 case atStart=>exact ⟨0,by omega,rfl,fun j _ hj=>absurd hj (by omega),Own.nil_ _ _,Below.refl _ _⟩
 case round =>
  obtain ⟨m,hm,rfl,hall,hown6,hbel⟩:=hrel
  have hbs:=hbel.size
  by_cases hlt:m < L.length
  ·
   obtain ⟨b,off,rfl,hb,hc⟩:=(h.below hbel).at_ hlt
   have c0:=hc 0 _ rfl
   have c1:=hc 1 _ rfl
   have c2:=hc 2 _ rfl
   simp only [Nat.add_zero] at c0
   clear hc
   have et:L.take (m+1) = L.take m++[L[m]]:=List.take_succ_eq_append_getElem hlt
   have ET:=Lib.hid et
   clear et
   have hfl:((L.take m).filter RL.nz).length≤m:=Nat.le_trans (List.length_filter_le _ _) (by simp; omega)
   by_cases hn:maxN L[m].amount = true
   ·
    have hn2 : -1000000000000≤L[m].amount∧L[m].amount≤1000000000000:=by simpa [maxN] using hn
    obtain ⟨hn3,hn4⟩:=hn2
    have hall1:∀ j,(hj:j < L.length)→j < m+1→maxN L[j].amount = true:=by
     intro j hj hjk
     rcases Nat.lt_or_ge j m with h1 | h1
     ·
      exact hall.out j hj h1
     ·
      obtain rfl:j = m:=by omega
      exact hn
    have HALL:=Lib.hid hall1
    clear hall1 hn
    by_cases hz:(L[m].amount != 0) = true
    ·
     have HF:Hid (((L.take (m+1)).filter RL.nz) = (L.take m).filter RL.nz++[⟨L[m].kind,L[m].code,L[m].amount⟩]):=by
      rw [Hid,ET.out,List.filter_append]
      have:RL.nz L[m] = true:=hz
      simp [this]
     go_wp2_with (at_builtin; (refine wpList_append_one _ _ 39 ⟨L[m].kind,L[m].code,L[m].amount⟩ _ 32 _ infoL Tryz.underlying39 hown6 encL_len (by omega) rfl (encL_one _) (by omega) (by omega) (by omega) (by rfl) (by rfl) (by rfl) (by rfl) (by simp) (by rfl) ?_); intro v2 w6 hown7 hg7)
     have hr6:=fun q hq=>(hown6.block_lt (g:=q) hq).1
     rw [← HF.out] at hown7
     have hb7:Below w.heap.size w w6:=bel_only hbel hg7 (fun g e=>hr6 g e)
     go_roundw
     case rel =>
      have hfin:∃ k':Nat,k'≤L.length∧Value.int .i64 ((m:Int)+1) = .int .i64 k'∧Hid (∀ j,(hj:j < L.length)→j < k'→maxN L[j].amount = true)∧Own encL 3 53 w6 w.heap.size v2 ((L.take k').filter RL.nz)∧Below w.heap.size w w6:=⟨m+1,by omega,by go_num,HALL,hown7,hb7⟩
      first | exact hfin | ((repeat apply Exists.intro); exact ⟨hfin,rfl⟩)
     case measure=>simp [intOf]; omega
    ·
     have hz':(L[m].amount != 0) = false:=by simpa using hz
     have HF:Hid (((L.take (m+1)).filter RL.nz) = (L.take m).filter RL.nz):=by
      rw [Hid,ET.out,List.filter_append]
      have:RL.nz L[m] = false:=hz'
      simp [this]
     clear hz
     rw [← HF.out] at hown6
     go_wp2
     go_roundw
     case rel =>
      have hfin:∃ k':Nat,k'≤L.length∧Value.int .i64 ((m:Int)+1) = .int .i64 k'∧Hid (∀ j,(hj:j < L.length)→j < k'→maxN L[j].amount = true)∧Own encL 3 53 wr w.heap.size u4 ((L.take k').filter RL.nz)∧Below w.heap.size w wr:=⟨m+1,by omega,by go_num,HALL,hown6,hbel⟩
      first | exact hfin | ((repeat apply Exists.intro); exact ⟨hfin,rfl⟩)
     case measure=>simp [intOf]; omega
   ·
    have HO:=Lib.hid (over_yes hlt hn)
    have hfail:∀ (W:World),Below w.heap.size w W→∃ v,Ending.returned (.tuple #[.slice none 0 0,.bool false]) = .returned (.tuple #[v,.bool (!anyOver L)])∧Own encL 3 53 W w.heap.size v (trimR L)∧Below w.heap.size w W:=by
     intro W hW
     refine ⟨.slice none 0 0,by rw [HO.out]; rfl,?_,hW⟩
     rw [trimR,HO.out,if_pos rfl]
     exact Own.nil_ _ _
    have HFAIL:=Lib.hid hfail
    clear hfail
    by_cases h1 : -1000000000000≤L[m].amount
    ·
     have h2:¬ L[m].amount≤1000000000000:=fun h2=>hn (by simp [maxN,h1,h2])
     clear hn
     go_wp2
     go_ret2
     exact HFAIL.out _ hbel
    ·
     clear hn
     go_wp2
     go_ret2
     exact HFAIL.out _ hbel
  ·
   have HO:=Lib.hid (over_no (fun j hj=>hall.out j hj (by omega)))
   have ek:L.take m = L:=List.take_of_length_le (by omega)
   rw [ek] at hown6
   clear ek
   go_wp2
   go_ret2
   refine ⟨_,by rw [HO.out]; rfl,?_,hbel⟩
   rw [trimR,HO.out,if_neg (by simp)]
   exact hown6
theorem sums_take (xs:List LineT) (k:Nat) (h:k < xs.length) : RL.put (RL.sums (xs.take k)) xs[k] = RL.sums (xs.take (k+1)):=by
 rw [List.take_succ_eq_append_getElem h,Rec.sums_snoc]
theorem form_amt {x:LineT} (h:formB x = true) : -1000000000000≤x.amount∧x.amount≤1000000000000:=by
 simp [formB,maxN] at h
 omega
theorem mErr_cases (l:List LineT) (h1:l.length≤65536) (h2:l.any (fun x=>!formB x) = false) : mErr l = if anyOver (RL.sums l) then 4 else 0:=by
 rw [mErr,if_neg (by omega),h2,if_neg (by simp)]
set_option maxRecDepth 100000 in
set_option maxHeartbeats 4000000 in
theorem merge34_any (A:Option Addr) (cap:Nat) (xs:List LineT) (w:World) (h:SliceOf encL 3 w w.heap.size A xs) (hz : ∀ x ∈ xs,x.code.size≤maxLen) (hl:xs.length≤9223372036854775807) :
  Calls Tryz.prog 37 #[.slice A xs.length cap] w fun r w'=>∃ v,r = .returned (.tuple #[v,.int .i64 (mErr xs)])∧Own encL 3 53 w' w.heap.size v (mR xs)∧Below w.heap.size w w':=by
 have HZ:=Lib.hid hz; clear hz
 have fail_:∀ (n:Int) (W:World),n ≠ 0→mErr xs = n→Below w.heap.size w W→∃ v,Ending.returned (.tuple #[.slice none 0 0,.int .i64 n]) = .returned (.tuple #[v,.int .i64 (mErr xs)])∧Own encL 3 53 W w.heap.size v (mR xs)∧Below w.heap.size w W:=by
  intro n W hn he hb
  refine ⟨.slice none 0 0,by rw [he],?_,hb⟩
  rw [mR,if_neg (by rw [he]; exact hn)]
  exact Own.nil_ _ _
 have FAIL:=Lib.hid fail_
 clear fail_
 by_cases hlen:65536 < xs.length
 ·
  have HP:Hid (mErr xs = 3):=by simp only [Hid,mErr,if_pos hlen]
  go_enter Tryz.func37,Tryz.ntmps37
  go_wp2
  go_ret2
  exact FAIL.out 3 _ (by omega) HP.out (Below.refl _ _)
 ·
  have hlen':xs.length≤65536:=by omega
  clear hlen hl
  go_enter Tryz.func37,Tryz.ntmps37
  go_wp2
  go_loopw [4,5] (fun v i wr=>∃ k:Nat,k≤xs.length∧i = .int .i64 k∧Hid (∀ j,(hj:j < xs.length)→j < k→formB xs[j] = true)∧Own encL 3 53 wr w.heap.size v (RL.sums (xs.take k))∧RL.Bdd (k * 1000000000000) (RL.sums (xs.take k))∧(RL.sums (xs.take k)).length≤k∧Below w.heap.size w wr) (fun _ i _=>xs.length - (intOf i).toNat)
  case atStart=>exact ⟨0,by omega,rfl,fun j _ hj=>absurd hj (by omega),Own.nil_ _ _,(fun x hx=>by simp [Rec.sums] at hx),by simp [Rec.sums],Below.refl _ _⟩
  case round =>
   obtain ⟨k,hk,rfl,hall,hown,hbd,hlk,hbel⟩:=hrel
   have hbs:=hbel.size
   obtain ⟨A5,c5,rfl,hS5,hB5,hlc5,hcm5⟩:=hown.form2 encL_len
   by_cases hlt:k < xs.length
   ·
    obtain ⟨b,off,rfl,hb,hc⟩:=(h.below hbel).at_ hlt
    have c0:=hc 0 _ rfl
    have c1:=hc 1 _ rfl
    have c2:=hc 2 _ rfl
    simp only [Nat.add_zero] at c0
    clear hc
    have hzk:=HZ.out _ (List.getElem_mem hlt)
    go_wp2_with fail
    refine (form32_any xs[k] _ hzk).mono ?_
    rintro e w1 ⟨rfl,hb1⟩
    have hbel1:=bel_adv hbel hb1
    obtain ⟨b',off',hA',hb',hc'⟩:=(h.below hbel1).at_ hlt
    injection hA' with hA'
    injection hA' with q1 q2
    subst q1 q2
    have d0:=hc' 0 _ rfl
    have d1:=hc' 1 _ rfl
    have d2:=hc' 2 _ rfl
    simp only [Nat.add_zero] at d0
    clear hc'
    rcases hf:formB xs[k] with _ | _
    ·
     have HP:Hid (mErr xs = 1):=by
      have h7:xs.any (fun x=>!formB x) = true:=List.any_eq_true.2 ⟨xs[k],List.getElem_mem _,by simp [hf]⟩
      simp only [Hid,mErr,if_neg (show ¬ 65536 < xs.length by omega),h7,if_true]
     clear hf
     go_wp2
     go_ret2
     exact FAIL.out 1 _ (by omega) HP.out hbel1
    ·
     have ha:=form_amt hf
     obtain ⟨ha1,ha2⟩:=ha
     have HF:=Lib.hid hf
     clear hf
     have HBD:=Lib.hid hbd
     go_wp2_with fail
     refine (putL_any A5 c5 (RL.sums (xs.take k)) xs[k] _ (hS5.adv hb1) hlc5 hcm5 (by omega) (fun x hx=>by have h1:=HBD.out x hx; have h2:RL.amt x = x.amount:=rfl; omega) (by omega) (by omega)).mono ?_
     rintro e w2 ⟨v2,rfl,hown2,hb2⟩
     have hbel2:=bel_adv hbel1 hb2
     have hbd2:RL.Bdd ((k+1:Nat) * 1000000000000) (RL.sums (xs.take (k+1))):=by
      rw [← sums_take xs k hlt]
      have:=Rec.Bdd.put RL_law HBD.out (C:=1000000000000) (e:=xs[k]) (by omega) (by omega) ha1 ha2
      intro x hx
      have:=this x hx
      omega
     have hln2:=Rec.put_length (R:=RL) (RL.sums (xs.take k)) xs[k]
     rw [sums_take xs k hlt] at hown2 hln2
     go_wp2
     go_roundw
     case rel =>
      have hfin:∃ k':Nat,k'≤xs.length∧Value.int .i64 ((k:Int)+1) = .int .i64 k'∧Hid (∀ j,(hj:j < xs.length)→j < k'→formB xs[j] = true)∧Own encL 3 53 w2 w.heap.size v2 (RL.sums (xs.take k'))∧RL.Bdd (k' * 1000000000000) (RL.sums (xs.take k'))∧(RL.sums (xs.take k')).length≤k'∧Below w.heap.size w w2:=by
       refine ⟨k+1,by omega,by go_num,fun j hj hjk=>?_,hown2.weaken (by have:=hbel1.size; omega),hbd2,by omega,hbel2⟩
       rcases Nat.lt_or_ge j k with h1 | h1
       ·
        exact hall.out j hj h1
       ·
        obtain rfl:j = k:=by omega
        exact HF.out
      first | exact hfin | ((repeat apply Exists.intro); exact ⟨hfin,rfl⟩)
     case measure=>simp [intOf]; omega
   ·
    have h1:Hid (xs.any (fun x=>!formB x) = false):=by
     rw [Hid,List.any_eq_false]
     intro x hx
     obtain ⟨j,hj,rfl⟩:=List.mem_iff_getElem.1 hx
     simp [hall.out j hj (by omega)]
    have ek:xs.take k = xs:=List.take_of_length_le (by omega)
    rw [ek] at hown hbd hlk hS5 hlc5
    rw [show (RL.sums (xs.take k)).length = (RL.sums xs).length by rw [ek]]
    have HM:=Lib.hid (mErr_cases xs hlen' h1.out)
    clear hall ek
    go_wp2_with fail
    refine (trim_any A5 c5 (RL.sums xs) _ hS5 (by omega)).mono ?_
    rintro e w1 ⟨v1,rfl,hown1,hb1⟩
    have hbel1:=bel_adv hbel hb1
    rcases hov:anyOver (RL.sums xs) with _ | _
    ·
     have HP:Hid (mErr xs = 0):=by rw [Hid,HM.out,hov]; rfl
     have HR:Hid (mR xs = trimR (RL.sums xs)):=by rw [Hid,mR,if_pos HP.out,trimR,hov]; rfl
     go_wp2
     go_ret2
     refine ⟨_,by rw [HP.out]; rfl,?_,hbel1⟩
     rw [HR.out]
     exact hown1.weaken hbs
    ·
     have HP:Hid (mErr xs = 4):=by rw [Hid,HM.out,hov]; rfl
     go_wp2
     go_ret2
     exact FAIL.out 4 _ (by omega) HP.out hbel1
end Go.Proofs.YtjncpgbhokjbfaaGreat
namespace Go.Proofs.YtjncpgbhokjbfaaGreat
open Go.RowKit Go.Sort Go.Shelf Go.Maps Go.WideMaps Go.WideElems Go.ChangeMaps
theorem zeroI (w:World) : (zeroValue 3).run Tryz.prog w = .ok (.int .i64 0) w:=by kernel_rfl
theorem keyedT : Keyed Tryz.prog 134:=Keyed.of_law lawT
abbrev mkT (s:Int × ByteArray) : Value:=.agg #[.int .i64 s.1,.string s.2]
def SumsL (K:Int × List UInt8→Bool) (T:Int × List UInt8→Int) (n:Nat) (w:World) (e:Ending) (w' : World) : Prop :=
 Below w.heap.size w w'∧(((∃ c,K c = true∧maxN (T c) = false)∧e = .returned (.tuple #[.slice none 0 0,.int .i64 4])) ∨
  ((∀ c,K c = true→maxN (T c) = true)∧∃ A cap ys,e = .returned (.tuple #[.slice A ys.length cap,.int .i64 0])∧SliceOf encL 3 w' w'.heap.size A ys∧ys.length≤n∧ys.length≤cap∧cap≤maxLen ∧
   RL.Sorted ys∧∀ x:LineT,x ∈ ys ↔ (K (RL.key x) = true∧x.amount = T (RL.key x)∧x.amount ≠ 0)))
set_option maxRecDepth 100000 in
set_option maxHeartbeats 2000000 in
theorem collect_any (B n : Nat) (D:DataW Unit) (K:Int × List UInt8→Bool) (T:Int × List UInt8→Int) (w:World) (hown:w.ownsMap Tryz.prog 134 (plainElem (H:=Unit) Tryz.prog 3) B n D) (hD:MapG litT goodT D K T) (hKG : ∀ c,K c = true→goodT c) (hn:n≤1000000) :
  Calls Tryz.prog 63 #[.map (some B)] w (SumsL K T n w):=by
 have hBl:B < w.heap.size:=hown.lt
 have hsize:Maps.size D≤n:=by
  obtain ⟨es,clock,_,_,hn',rfl⟩:=hown
  rw [Maps.size_eq,length_insertAll]
  simpa using hn'
 have HKG:=Lib.hid hKG
 clear hKG
 go_enter Tryz.func63,Tryz.ntmps63
 go_wp2_with (at_range; refine wpList_range_own _ (by rfl) _ 132 (by rfl) 134 3 keyedT Tryz.underlying132 (plainElem (H:=Unit) Tryz.prog 3) B n D (by rfl) hown ?_; intro w0 hrg0 hg0 hs0)
 go_frame
 go_loopw [4,5] (fun v _ wr=>∃ left cnt ys,wr.ranges Tryz.prog 134 (plainElem (H:=Unit) Tryz.prog 3) B w.heap.size n D left cnt∧Own encL 3 53 wr (w.heap.size+1) v ys∧ColG RL litT goodT maxN K T left ys∧ys.length+cnt≤n∧Below w.heap.size w wr) (fun _ _ wr=>wr.rangeLeft B w.heap.size)
 case atStart=>exact ⟨_,_,[],hrg0,Own.nil_ _ _,ColG.start hD,by simpa using hsize,only_below hg0 (Nat.le_refl _) (by simp)⟩
 case round =>
  obtain ⟨left,cnt,ys,hrg,hrow,hcol,hlen,hbel⟩:=hrel
  have hbs:=hbel.size
  have hrs:=hrg.lt
  go_wp2_with (at_next; refine wpList_next_ranges _ (by rfl) _ (by rfl) 134 keyedT (plainElem (H:=Unit) Tryz.prog 3) mkT (Value.int .i64) (fun key kl hk=>by obtain ⟨k,s,hx,_⟩:=keyT_inv hk; exact ⟨(k,s),hx⟩) (fun v y hv=>by obtain ⟨c,hc,_⟩:=plainElem_int_inv Tryz.underlying3 hv; exact ⟨c,hc⟩) B w.heap.size n _ _ _ (by rfl) hrg ?_ ?_)
  ·
   intro hc0 hl0
   obtain ⟨A5,c5,rfl,hS5,hB5,hlc5,hcm5⟩:=hrow.form2 encL_len
   go_wp2_with fail
   refine (sortL_any A5 c5 (w.heap.size+1) ys _ hrow (by omega)).mono ?_
   rintro e w1 ⟨rfl,zs,hp,hsd,hSz,hb1⟩
   have hlz:=hp.length_eq
   obtain ⟨f1,f2,f3⟩:=hcol.done RL_law hl0 HKG.out hp hsd
   have HF1:=Lib.hid f1
   have HF2:=Lib.hid f2
   have HF3:=Lib.hid f3
   clear f1 f2 f3
   go_wp2
   go_ret2
   exact ⟨hbel.trans (hb1.mono (by omega)),.inr ⟨HF1.out,A5,c5,zs,by rw [hlz]; rfl,hSz,by omega,by omega,hcm5,HF2.out,HF3.out⟩⟩
  ·
   intro tk tc c kl yd yp w2 cnt2 hkey hlk hv hat hrg2 hlt hg2 hs2 hen
   obtain ⟨k',s',hx',hgd,rfl⟩:=keyT_inv hkey
   obtain ⟨hx1,hx2⟩:=agg2_inj hx'
   injection hx1 with _ hx1
   injection hx2 with hx2
   simp only at hx1 hx2
   subst hx1 hx2
   have hyd:yd = i64L c:=by
    obtain ⟨c',h1,h2,_⟩:=plainElem_int_inv Tryz.underlying3 hv
    injection h1 with _ h1
    subst h1
    injection h2
   have hKs:K (tk,tc.data.toList) = true:=by rw [← hD.has _ hgd]; exact has_true_of_atKey hat
   have hTs:T (tk,tc.data.toList) = c:=by
    have h1:=hD.at_ _ hgd
    rw [hat,hyd] at h1
    injection h1 with h1
    injection h1 with _ h1
    exact h1.symm
   have hrow2:=hrow.kept hg2 (by intro g e; injection e; omega)
   have hbel2:Below w.heap.size w w2:=hbel.grown hg2 hbs (by intro g e; injection e; omega)
   have hbs2:=hbel2.size
   have hrs2:=hrg2.lt
   have HT:=Lib.hid hTs
   have HGD:=Lib.hid hgd
   clear hs2 hat hkey hx' hv hyd hTs hgd
   by_cases ha:maxN c = true
   ·
    have HST:=Lib.hid (hcol.step keyGT HGD.out hlk hKs HT.out ha)
    by_cases hc0:c = 0
    ·
     have hn0:(c != 0) = false:=by simp [hc0]
     have hcol2:=HST.out.2 hc0
     clear hc0
     go_wp2_with (go_at_call 114; refine (isTotal_any _ _).mono ?_; rintro e w' ⟨rfl,rfl⟩)
     have hgA:=World.grownBy_alloc w2 (Obj.cells #[Value.int IntKind.i64 tk,Value.string tc] 134) none
     have hrg3:=hrg2.kept hgA (by simp) (by simp)
     have hrow3:=hrow2.alloc (Obj.cells #[Value.int IntKind.i64 tk,Value.string tc] 134)
     have hbel3:=bel_alloc hbel2 (Obj.cells #[Value.int IntKind.i64 tk,Value.string tc] 134)
     go_roundw
     case rel =>
      have hf:∃ left cnt ys,(w2.alloc (Obj.cells #[Value.int IntKind.i64 tk,Value.string tc] 134)).ranges Tryz.prog 134 (plainElem (H:=Unit) Tryz.prog 3) B w.heap.size n D left cnt∧Own encL 3 53 (w2.alloc (Obj.cells #[Value.int IntKind.i64 tk,Value.string tc] 134)) (w.heap.size+1) u4 ys∧ColG RL litT goodT maxN K T left ys∧ys.length+cnt≤n∧Below w.heap.size w (w2.alloc (Obj.cells #[Value.int IntKind.i64 tk,Value.string tc] 134)):=⟨_,_,ys,hrg3,hrow3,hcol2,by omega,hbel3⟩
      first | exact hf | ((repeat apply Exists.intro); exact ⟨hf,rfl⟩)
     case measure=>rw [hrg3.left_eq,hrg.left_eq]; omega
    ·
     have hn0:(c != 0) = true:=by simp [hc0]
     have hcol2:=HST.out.1 ⟨tk,tc,c⟩ rfl rfl hc0
     clear hc0
     have hgA:=World.grownBy_alloc w2 (Obj.cells #[Value.int IntKind.i64 tk,Value.string tc] 134) none
     have hrg3:=hrg2.kept hgA (by simp) (by simp)
     have hrow3:=hrow2.alloc (Obj.cells #[Value.int IntKind.i64 tk,Value.string tc] 134)
     have hbel3:=bel_alloc hbel2 (Obj.cells #[Value.int IntKind.i64 tk,Value.string tc] 134)
     have hne:some B ≠ u4.ownBlock:=fun e=>by have:=(hrow3.block_lt e.symm).1; omega
     have hne2:some w.heap.size ≠ u4.ownBlock:=fun e=>by have:=(hrow3.block_lt e.symm).1; omega
     have hr4:=fun g hg=>(hrow3.block_lt (g:=g) hg).1
     have hs3:w.heap.size+1≤(w2.alloc (Obj.cells #[Value.int IntKind.i64 tk,Value.string tc] 134)).heap.size:=by simp; omega
     go_wp2_with (first | (go_at_call 114; refine (isTotal_any _ _).mono ?_; rintro e w' ⟨rfl,rfl⟩) | (at_builtin; (refine wpList_append_one _ _ 39 ⟨tk,tc,c⟩ _ 32 _ infoL Tryz.underlying39 hrow3 encL_len (by omega) rfl (encL_one _) (by omega) (by omega) hs3 (by rfl) (by rfl) (by rfl) (by rfl) (by simp) (by rfl) ?_); intro v2 w6 hown7 hg7))
     go_roundw
     case rel =>
      have hf:∃ left cnt ys,w6.ranges Tryz.prog 134 (plainElem (H:=Unit) Tryz.prog 3) B w.heap.size n D left cnt∧Own encL 3 53 w6 (w.heap.size+1) v2 ys∧ColG RL litT goodT maxN K T left ys∧ys.length+cnt≤n∧Below w.heap.size w w6:=⟨_,_,_,hrg3.kept hg7 hne hne2,hown7,hcol2,by simp; omega,bel_only hbel3 hg7 (fun g hg=>by have:=hr4 g hg; omega)⟩
      first | exact hf | ((repeat apply Exists.intro); exact ⟨hf,rfl⟩)
     case measure=>rw [(hrg3.kept hg7 hne hne2).left_eq,hrg.left_eq]; omega
   ·
    have ha':maxN c = false:=by simpa using ha
    clear ha
    go_wp2_with (go_at_call 114; refine (isTotal_any _ _).mono ?_; rintro e w' ⟨rfl,rfl⟩)
    go_ret2
    exact ⟨bel_alloc hbel2 _,.inl ⟨⟨_,hKs,by rw [HT.out]; exact ha'⟩,rfl⟩⟩
end Go.Proofs.YtjncpgbhokjbfaaGreat
namespace Go.Proofs.YtjncpgbhokjbfaaGreat
open Go.RowKit Go.Sort Go.Shelf Go.Maps Go.WideMaps Go.WideElems Go.ChangeMaps
def LinesPost (m:List LineT) (er:Int) (w:World) (e:Ending) (w' : World) : Prop :=
 ∃ A cap,e = .returned (.tuple #[.slice A m.length cap,.int .i64 er])∧SliceOf encL 3 w' w'.heap.size A m∧m.length≤cap∧cap≤maxLen∧Below w.heap.size w w'
theorem LinesPost.fail {m:List LineT} {er n : Int} {w W : World} (hm:m = []) (he:er = n) (hb:Below w.heap.size w W) : LinesPost m er w (.returned (.tuple #[.slice none 0 0,.int .i64 n])) W:=by
 subst hm he
 exact ⟨none,0,rfl,SliceOf.nil_,by simp,by unfold maxLen; omega,hb⟩
theorem mR_nil {l:List LineT} {n:Int} (h:mErr l = n) (hn:n ≠ 0) : mR l = []:=by rw [mR,if_neg (by rw [h]; exact hn)]
theorem has_good {xs:List LineT} (hz : ∀ x ∈ xs,x.code.size≤maxLen) (hf : ∀ x ∈ xs,formB x = true) : ∀ c,RL.has xs c = true→goodT c:=fun c hc=>by
 obtain ⟨x,hx,e⟩:=List.any_eq_true.1 hc
 have e':RL.key x = c:=by simpa using e
 rw [← e']
 have h1:=hf x hx
 simp [formB] at h1
 exact ⟨wf64 (by show _≤x.kind; omega) (by show x.kind≤_; omega),by have:=hz x hx; simpa [RL] using this⟩
theorem good_of {x:LineT} (hz:x.code.size≤maxLen) (hf:formB x = true) : goodT (RL.key x):=by
 have h1:=hf
 simp [formB] at h1
 exact ⟨wf64 (by show _≤x.kind; omega) (by show x.kind≤_; omega),by simpa [RL] using hz⟩
set_option maxRecDepth 100000 in
set_option maxHeartbeats 4000000 in
theorem mergeP_any (A:Option Addr) (cap:Nat) (xs:List LineT) (w:World) (h:SliceOf encL 3 w w.heap.size A xs) (hz : ∀ x ∈ xs,x.code.size≤maxLen) (hl:xs.length≤9223372036854775806) :
  Calls Tryz.prog 62 #[.slice A xs.length cap] w (LinesPost (mR xs) (mErr xs) w):=by
 have HZ:=Lib.hid hz; clear hz
 have hmm:=@run_makeMap Tryz.prog
 by_cases hlen:65536 < xs.length
 ·
  have HP:Hid (mErr xs = 3):=by simp only [Hid,mErr,if_pos hlen]
  go_enter Tryz.func62,Tryz.ntmps62
  go_wp2
  go_ret2
  exact LinesPost.fail (mR_nil HP.out (by omega)) HP.out (Below.refl _ _)
 ·
  have hlen':xs.length≤65536:=by omega
  clear hlen hl
  go_enter Tryz.func62,Tryz.ntmps62
  go_wp2
  have hmap0:(w.alloc (.map #[] 0)).ownsMap Tryz.prog 134 (plainElem (H:=Unit) Tryz.prog 3) w.heap.size 0 (.map []):=World.ownsMap_made _ _ _ _
  have hbel0:Below w.heap.size w (w.alloc (.map #[] 0)):=below_new _ _
  go_loopw [13] (fun i wr=>∃ (k:Nat) (D:DataW Unit),k≤xs.length∧i = .int .i64 k∧Hid (∀ x ∈ xs.take k,formB x = true)∧wr.ownsMap Tryz.prog 134 (plainElem (H:=Unit) Tryz.prog 3) w.heap.size k D∧MapG litT goodT D (RL.has (xs.take k)) (RL.tot (xs.take k))∧Below w.heap.size w wr) (fun i _=>xs.length - (intOf i).toNat)
  case atStart=>exact ⟨0,.map [],by omega,rfl,(fun x hx=>by simp at hx),hmap0,MapG.empty,hbel0⟩
  case round =>
   clear hmap0 hbel0
   obtain ⟨k,D,hk,rfl,hall,hown,hD,hbel⟩:=hrel
   have hbs:=hbel.size
   have hml:=hown.lt
   by_cases hlt:k < xs.length
   ·
    obtain ⟨b,off,rfl,hb,hc⟩:=(h.below hbel).at_ hlt
    have c0:=hc 0 _ rfl
    have c1:=hc 1 _ rfl
    have c2:=hc 2 _ rfl
    simp only [Nat.add_zero] at c0
    clear hc
    have hzk:=HZ.out _ (List.getElem_mem hlt)
    go_wp2_with fail
    refine (formed_any xs[k] _ hzk).mono ?_
    rintro e w1 ⟨rfl,hb1⟩
    have hB1:=(Blk.new wr _ _).adv hb1
    have hown1:=(hown.alloc (Obj.cells #[.int .i64 xs[k].kind,.string xs[k].code,.int .i64 xs[k].amount] 53)).kept (only_of_below hb1 none) (by simp)
    have hbel1:=bel_adv (bel_alloc hbel _) hb1
    clear hb1 hown
    rcases hf:formB xs[k] with _ | _
    ·
     have HP:Hid (mErr xs = 1):=by
      have h7:xs.any (fun x=>!formB x) = true:=List.any_eq_true.2 ⟨xs[k],List.getElem_mem _,by simp [hf]⟩
      simp only [Hid,mErr,if_neg (show ¬ 65536 < xs.length by omega),h7,if_true]
     clear hf
     go_wp2
     go_ret2
     exact LinesPost.fail (mR_nil HP.out (by omega)) HP.out hbel1
    ·
     obtain ⟨ha1,ha2⟩:=form_amt hf
     have hgd:=good_of hzk hf
     have hall1:∀ x ∈ xs.take (k+1),formB x = true:=by
      intro x hx
      rw [List.take_succ_eq_append_getElem hlt] at hx
      rcases List.mem_append.1 hx with hx | hx
      ·
       exact hall.out x hx
      ·
       simp at hx; subst hx; exact hf
     have HALL:=Lib.hid hall1
     have hTb:=Rec.tot_bd (R:=RL) (xs.take k) (RL.key xs[k]) 1000000000000 (by omega) (fun x hx=>form_amt (hall.out x hx))
     have hTl:(xs.take k).length≤65536:=by simp; omega
     have hT1 : -100000000000000000≤RL.tot (xs.take k) (RL.key xs[k]):=by omega
     have hT2:RL.tot (xs.take k) (RL.key xs[k])≤100000000000000000:=by omega
     have hkey:keyOf Tryz.prog 134 (.agg #[.int .i64 xs[k].kind,.string xs[k].code]) = some (litT (RL.key xs[k])):=keyT _ _ hgd
     obtain ⟨c,st,w3,hlk,hat,hwc,hme,hlk3,hg3,hst⟩:=entry_own lawT Tryz.underlying132 Tryz.underlying3 zeroI hown1.drew (by unfold maxLen; omega) hD.isMap hkey
     obtain rfl:c = RL.tot (xs.take k) (RL.key xs[k]):=by
      have h1:=hD.at_ _ hgd
      rw [hat] at h1
      injection h1 with h1
      injection h1
     obtain ⟨w4,hes,hown4,hg4⟩:=hst (RL.tot (xs.take k) (RL.key xs[k])+xs[k].amount) (wf64 (by omega) (by omega))
     have hD1:=hD.put_ (K':=RL.has (xs.take (k+1))) (T':=RL.tot (xs.take (k+1))) keyGT (RL.key xs[k]) hgd (RL.tot (xs.take k) (RL.key xs[k])+xs[k].amount) (Rec.has_take xs k hlt) (fun c=>by
      rw [Rec.tot_take xs k hlt]
      split
      ·
       rename_i e; rw [← e]; rfl
      ·
       omega)
     have HD1:=Lib.hid hD1
     have hB3:Blk w3 wr.heap.size 53 #[.int .i64 xs[k].kind,.string xs[k].code,.int .i64 xs[k].amount]:=Blk.grown (w:=w1.drew) hB1 hg3 (by intro e; injection e; omega)
     have hbel4:Below w.heap.size w w4:=bel_only (below_drewN hbel1 1) hg4 (fun g e=>by injection e; omega)
     have e0:=hB1.cell 0
     have e1:=hB1.cell 1
     have e2:=hB1.cell 2
     simp only [nqg,nqh,nqi] at e0 e1 e2
     have d0:=hB3.cell 0
     have d1:=hB3.cell 1
     have d2:=hB3.cell 2
     simp only [nqg,nqh,nqi] at d0 d1 d2
     have hl1:=hB1.lt
     have hl3:=hB3.lt
     generalize RL.tot (xs.take k) (RL.key xs[k]) = t0 at *
     clear hD hD1 hall hall1 hTb hTl hat hwc hst hkey hgd hB1 hB3 hf hown1 hmm c0 c1 c2
     go_wp2
     go_big_region
     go_wp2
     go_roundw
     case rel=>exact ⟨k+1,_,by omega,by go_num,HALL,hown4,HD1.out,hbel4⟩
     case measure=>simp [intOf]; omega
   ·
    have ek:xs.take k = xs:=List.take_of_length_le (by omega)
    rw [ek] at hD hall
    have h1:Hid (xs.any (fun x=>!formB x) = false):=by
     rw [Hid,List.any_eq_false]
     intro x hx
     simp [hall.out x hx]
    have HM:=Lib.hid (mErr_cases xs hlen' h1.out)
    go_wp2_with fail
    refine (collect_any w.heap.size k D _ _ _ hown hD (has_good HZ.out hall.out) (by omega)).mono ?_
    rintro e w4 ⟨hb4,⟨hbad,rfl⟩ | ⟨hgood,A4,cap4,ys,rfl,hS4,hyn,hyc,hcm4,hys,hmem⟩⟩
    ·
     have HP:Hid (mErr xs = 4):=by
      have h4:anyOver (RL.sums xs) = true:=(Rec.any_iff RL_law maxN (Rec.sums_sorted RL_law xs)).2 (by
       obtain ⟨c,hc1,hc2⟩:=hbad
       exact ⟨c,by rw [Rec.sums_has RL_law]; exact hc1,by rw [Rec.sums_tot RL_law]; exact hc2⟩)
      rw [Hid,HM.out,h4]; rfl
     go_wp2
     go_ret2
     exact LinesPost.fail (mR_nil HP.out (by omega)) HP.out (bel_adv hbel hb4)
    ·
     have HP:Hid (mErr xs = 0):=by
      have h4:anyOver (RL.sums xs) = false:=by
       cases hh:anyOver (RL.sums xs)
       ·
        rfl
       ·
        obtain ⟨c,hc1,hc2⟩:=(Rec.any_iff RL_law maxN (Rec.sums_sorted RL_law xs)).1 hh
        rw [Rec.sums_has RL_law] at hc1
        rw [Rec.sums_tot RL_law,hgood c hc1] at hc2
        cases hc2
      rw [Hid,HM.out,h4]; rfl
     have HR:Hid (mR xs = ys):=by
      rw [Hid,mR,if_pos HP.out]
      exact (Rec.filtered_eq RL_law (Rec.sums_sorted RL_law xs) hys (fun x=>by rw [Rec.sums_has RL_law,Rec.sums_tot RL_law]; exact hmem x)).symm
     go_wp2
     go_ret2
     rw [HR.out,HP.out]
     exact ⟨A4,cap4,rfl,hS4,hyc,hcm4,bel_adv hbel hb4⟩
end Go.Proofs.YtjncpgbhokjbfaaGreat
