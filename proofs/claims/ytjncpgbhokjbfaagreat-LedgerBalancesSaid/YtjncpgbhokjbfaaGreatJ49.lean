/- Joined texts: Post DivP BkP. Conditions: as stated. -/
import Derived.Test.YtjncpgbhokjbfaaGreatJ02
import Derived.Test.YtjncpgbhokjbfaaGreatJ03
import Derived.Test.YtjncpgbhokjbfaaGreatJ04
import Derived.Test.YtjncpgbhokjbfaaGreatJ23
import Derived.Test.YtjncpgbhokjbfaaGreatJ48
namespace Go.Proofs.YtjncpgbhokjbfaaGreat
open Go.RowKit
def postR (r e p : Int) (l:List LineT) : List PostT:=l.map fun x=>⟨r,e,p,x⟩
def rangeB (r e p : Int) : Bool:=inR r 1 256 && inR e 1 2147483647 && inR p 0 84005
def pErr (r e p : Int) (old now : List LineT) : Int:=if cErr old now ≠ 0 then cErr old now else if rangeB r e p then 0 else 2
def pR (r e p : Int) (old now : List LineT) : List PostT:=if pErr r e p old now = 0 then postR r e p (cR old now) else []
theorem cmpL_len (x y : List LineT) : (cmpL x y).length≤y.length+x.length:=by
 have:=Rec.foldl_length (R:=RL) (x.map RL.neg) y
 simpa [cmpL] using this
theorem cR_len (a b : List LineT) : (cR a b).length≤131072:=by
 rw [cR]; split
 ·
  have h1:=List.length_filter_le RL.nz (cmpL (mR a) (mR b))
  have h2:=cmpL_len (mR a) (mR b)
  have h3:=mR_len a
  have h4:=mR_len b
  omega
 ·
  simp
theorem pR_nil {r e p : Int} {a b : List LineT} {n:Int} (h:pErr r e p a b = n) (hn:n ≠ 0) : pR r e p a b = []:=by rw [pR,if_neg (by rw [h]; exact hn)]
theorem postR_take (r e p : Int) (l:List LineT) (k:Nat) (h:k < l.length) : postR r e p (l.take (k+1)) = postR r e p (l.take k)++[⟨r,e,p,l[k]⟩]:=by
 rw [postR,postR,List.take_succ_eq_append_getElem h,List.map_append]; rfl
theorem postR_len (r e p : Int) (l:List LineT) : (postR r e p l).length = l.length:=by simp [postR]
def PostsPost (m:List PostT) (er:Int) (w:World) (e:Ending) (w' : World) : Prop :=
 ∃ v,e = .returned (.tuple #[v,.int .i64 er])∧Own encP 6 55 w' w.heap.size v m∧Below w.heap.size w w'
theorem PostsPost.fail {m:List PostT} {er n : Int} {w W : World} (hm:m = []) (he:er = n) (hb:Below w.heap.size w W) : PostsPost m er w (.returned (.tuple #[.slice none 0 0,.int .i64 n])) W:=by
 subst hm he
 exact ⟨_,rfl,Own.nil_ _ _,hb⟩
set_option maxRecDepth 100000 in
set_option maxHeartbeats 4000000 in
theorem postings_any (r em p : Int) (A B : Option Addr) (c d : Nat) (xs ys : List LineT) (w:World) (h:SliceOf encL 3 w w.heap.size A xs) (hz : ∀ x ∈ xs,x.code.size≤maxLen) (hl:xs.length≤9223372036854775806)
  (hy:SliceOf encL 3 w w.heap.size B ys) (hzy:∀ x ∈ ys,x.code.size≤maxLen) (hly:ys.length≤9223372036854775806) :
  Calls Tryz.prog 13 #[.int .i64 r,.int .i64 em,.int .i64 p,.slice A xs.length c,.slice B ys.length d] w (PostsPost (pR r em p xs ys) (pErr r em p xs ys) w):=by
 go_enter Tryz.func13,Tryz.ntmps13
 go_wp2_with fail
 refine (compareP_any A B c d xs ys _ h hz hl hy hzy hly).mono ?_
 rintro e w1 ⟨A1,c1,rfl,hS1,hc1,hcm1,hb1⟩
 by_cases h0:cErr xs ys = 0
 ·
  have H0:=Lib.hid h0
  rw [h0]
  clear h0 h hy hz hzy
  rcases hrg:rangeB r em p with _ | _
  ·
   have HP:Hid (pErr r em p xs ys = 2):=by rw [Hid,pErr,if_neg (by simp [H0.out]),hrg]; rfl
   have HRG:=Lib.hid hrg
   clear hrg
   by_cases c0:inR r 1 256 = true
   rotate_left
   ·
    go_wp2_with (go_at_call 29; refine (within_any _ _ _ _).mono ?_; rintro e w' ⟨rfl,rfl⟩)
    go_ret2
    exact PostsPost.fail (pR_nil HP.out (by omega)) HP.out hb1
   by_cases c1:inR em 1 2147483647 = true
   rotate_left
   ·
    go_wp2_with (go_at_call 29; refine (within_any _ _ _ _).mono ?_; rintro e w' ⟨rfl,rfl⟩)
    go_ret2
    exact PostsPost.fail (pR_nil HP.out (by omega)) HP.out hb1
   by_cases c2:inR p 0 84005 = true
   rotate_left
   ·
    go_wp2_with (go_at_call 29; refine (within_any _ _ _ _).mono ?_; rintro e w' ⟨rfl,rfl⟩)
    go_ret2
    exact PostsPost.fail (pR_nil HP.out (by omega)) HP.out hb1
   skip
   exfalso
   have:=HRG.out
   simp [rangeB,c0,c1,c2] at this
  ·
   have HP:Hid (pErr r em p xs ys = 0):=by rw [Hid,pErr,if_neg (by simp [H0.out]),hrg]; rfl
   have HR:Hid (pR r em p xs ys = postR r em p (cR xs ys)):=by rw [Hid,pR,if_pos HP.out]
   simp only [rangeB,Bool.and_eq_true] at hrg
   obtain ⟨⟨o1,o2⟩,o3⟩:=hrg
   have hLl:=cR_len xs ys
   generalize cR xs ys = L at *
   go_wp2_with (go_at_call 29; refine (within_any _ _ _ _).mono ?_; rintro e w' ⟨rfl,rfl⟩)
   go_loopw [14,41] (fun v i wr=>∃ k:Nat,k≤L.length∧i = .int .i64 k∧Own encP 6 55 wr w1.heap.size v (postR r em p (L.take k))∧Below w1.heap.size w1 wr) (fun _ i _=>L.length - (intOf i).toNat)
   case atStart=>exact ⟨0,by omega,rfl,Own.nil_ _ _,Below.refl _ _⟩
   case round =>
    obtain ⟨k,hk,rfl,hown,hbel⟩:=hrel
    have hbs:=hbel.size
    by_cases hlt:k < L.length
    ·
     obtain ⟨b,off,rfl,hb,hc⟩:=(hS1.below hbel).at_ hlt
     have c0:=hc 0 _ rfl
     have c1:=hc 1 _ rfl
     have c2:=hc 2 _ rfl
     simp only [Nat.add_zero] at c0
     clear hc
     have HT:=Lib.hid (postR_take r em p L k hlt)
     have hfl:(postR r em p (L.take k)).length≤k:=by rw [postR_len]; simp; omega
     have hown1:=hown.alloc (Obj.cells #[.int .i64 L[k].kind,.string L[k].code,.int .i64 L[k].amount] 53)
     have hbel1:=bel_alloc hbel (Obj.cells #[.int .i64 L[k].kind,.string L[k].code,.int .i64 L[k].amount] 53)
     have hbs1:=hbel1.size
     go_wp2_with (at_builtin; (refine wpList_append_one _ _ 23 ⟨r,em,p,⟨L[k].kind,L[k].code,L[k].amount⟩⟩ _ 56 _ infoP Tryz.underlying23 hown1 encP_len (by omega) rfl (encP_one _) (by omega) (by omega) hbs1 (by rfl) (by rfl) (by rfl) (by rfl) (by simp) (by rfl) ?_); intro v2 w6 hown7 hg7)
     have hr6:=fun q hq=>(hown1.block_lt (g:=q) hq).1
     rw [← HT.out] at hown7
     have hb7:Below w1.heap.size w1 w6:=bel_only hbel1 hg7 (fun g e=>hr6 g e)
     go_roundw
     case rel =>
      have hfin:∃ k':Nat,k'≤L.length∧Value.int .i64 ((k:Int)+1) = .int .i64 k'∧Own encP 6 55 w6 w1.heap.size v2 (postR r em p (L.take k'))∧Below w1.heap.size w1 w6:=⟨k+1,by omega,by go_num,hown7,hb7⟩
      first | exact hfin | ((repeat apply Exists.intro); exact ⟨hfin,rfl⟩)
     case measure=>simp [intOf]; omega
    ·
     have ek:L.take k = L:=List.take_of_length_le (by omega)
     rw [ek] at hown
     clear ek
     go_wp2
     go_ret2
     refine ⟨_,by rw [HP.out]; rfl,?_,bel_adv hb1 hbel⟩
     rw [HR.out]
     exact hown.weaken hb1.size
 ·
  have h0':(cErr xs ys != 0) = true:=by simpa using h0
  have HE:Hid (pErr r em p xs ys = cErr xs ys):=by rw [Hid,pErr,if_pos h0]
  have H0:=Lib.hid h0
  clear h0
  go_wp2
  go_ret2
  exact PostsPost.fail (pR_nil HE.out H0.out) HE.out hb1
set_option maxRecDepth 100000 in
set_option maxHeartbeats 4000000 in
theorem postings37_any (r em p : Int) (A B : Option Addr) (c d : Nat) (xs ys : List LineT) (w:World) (h:SliceOf encL 3 w w.heap.size A xs) (hz : ∀ x ∈ xs,x.code.size≤maxLen) (hl:xs.length≤9223372036854775806)
  (hy:SliceOf encL 3 w w.heap.size B ys) (hzy:∀ x ∈ ys,x.code.size≤maxLen) (hly:ys.length≤9223372036854775806) :
  Calls Tryz.prog 19 #[.int .i64 r,.int .i64 em,.int .i64 p,.slice A xs.length c,.slice B ys.length d] w (PostsPost (pR r em p xs ys) (pErr r em p xs ys) w):=by
 go_enter Tryz.func19,Tryz.ntmps19
 go_wp2_with fail
 refine (compare34_any A B c d xs ys _ h hz hl hy hzy hly).mono ?_
 rintro e w1 ⟨v1,rfl,hown1,hb1⟩
 obtain ⟨A1,c1,rfl,hS1,hB1,hc1,hcm1⟩:=hown1.form2 encL_len
 by_cases h0:cErr xs ys = 0
 ·
  have H0:=Lib.hid h0
  rw [h0]
  clear h0 h hy hz hzy hown1 hB1
  rcases hrg:rangeB r em p with _ | _
  ·
   have HP:Hid (pErr r em p xs ys = 2):=by rw [Hid,pErr,if_neg (by simp [H0.out]),hrg]; rfl
   have HRG:=Lib.hid hrg
   clear hrg
   by_cases c0:1≤r
   rotate_left
   ·
    go_wp2
    go_ret2
    exact PostsPost.fail (pR_nil HP.out (by omega)) HP.out hb1
   by_cases c1:r≤256
   rotate_left
   ·
    go_wp2
    go_ret2
    exact PostsPost.fail (pR_nil HP.out (by omega)) HP.out hb1
   by_cases c2:1≤em
   rotate_left
   ·
    go_wp2
    go_ret2
    exact PostsPost.fail (pR_nil HP.out (by omega)) HP.out hb1
   by_cases c3:em≤2147483647
   rotate_left
   ·
    go_wp2
    go_ret2
    exact PostsPost.fail (pR_nil HP.out (by omega)) HP.out hb1
   by_cases c4:0≤p
   rotate_left
   ·
    go_wp2
    go_ret2
    exact PostsPost.fail (pR_nil HP.out (by omega)) HP.out hb1
   by_cases c5:p≤84005
   rotate_left
   ·
    go_wp2
    go_ret2
    exact PostsPost.fail (pR_nil HP.out (by omega)) HP.out hb1
   skip
   exfalso
   have:=HRG.out
   rw [rangeB,inR_yes c0 c1,inR_yes c2 c3,inR_yes c4 c5] at this
   cases this
  ·
   have HP:Hid (pErr r em p xs ys = 0):=by rw [Hid,pErr,if_neg (by simp [H0.out]),hrg]; rfl
   have HR:Hid (pR r em p xs ys = postR r em p (cR xs ys)):=by rw [Hid,pR,if_pos HP.out]
   have hrg2:(1≤r∧r≤256)∧(1≤em∧em≤2147483647)∧0≤p∧p≤84005:=by simpa [rangeB,inR,and_assoc] using hrg
   obtain ⟨⟨o1,o2⟩,⟨o3,o4⟩,o5,o6⟩:=hrg2
   clear hrg
   have hLl:=cR_len xs ys
   generalize cR xs ys = L at *
   go_wp2
   go_loopw [14,15] (fun v i wr=>∃ k:Nat,k≤L.length∧i = .int .i64 k∧Own encP 6 55 wr w1.heap.size v (postR r em p (L.take k))∧Below w1.heap.size w1 wr) (fun _ i _=>L.length - (intOf i).toNat)
   case atStart=>exact ⟨0,by omega,rfl,Own.nil_ _ _,Below.refl _ _⟩
   case round =>
    obtain ⟨k,hk,rfl,hown,hbel⟩:=hrel
    have hbs:=hbel.size
    by_cases hlt:k < L.length
    ·
     obtain ⟨b,off,rfl,hb,hc⟩:=(hS1.below hbel).at_ hlt
     have c0:=hc 0 _ rfl
     have c1:=hc 1 _ rfl
     have c2:=hc 2 _ rfl
     simp only [Nat.add_zero] at c0
     clear hc
     have HT:=Lib.hid (postR_take r em p L k hlt)
     have hfl:(postR r em p (L.take k)).length≤k:=by rw [postR_len]; simp; omega
     go_wp2_with (at_builtin; (refine wpList_append_one _ _ 23 ⟨r,em,p,⟨L[k].kind,L[k].code,L[k].amount⟩⟩ _ 56 _ infoP Tryz.underlying23 hown encP_len (by omega) rfl (encP_one _) (by omega) (by omega) hbs (by rfl) (by rfl) (by rfl) (by rfl) (by simp) (by rfl) ?_); intro v2 w6 hown7 hg7)
     have hr6:=fun q hq=>(hown.block_lt (g:=q) hq).1
     rw [← HT.out] at hown7
     have hb7:Below w1.heap.size w1 w6:=bel_only hbel hg7 (fun g e=>hr6 g e)
     go_roundw
     case rel =>
      have hfin:∃ k':Nat,k'≤L.length∧Value.int .i64 ((k:Int)+1) = .int .i64 k'∧Own encP 6 55 w6 w1.heap.size v2 (postR r em p (L.take k'))∧Below w1.heap.size w1 w6:=⟨k+1,by omega,by go_num,hown7,hb7⟩
      first | exact hfin | ((repeat apply Exists.intro); exact ⟨hfin,rfl⟩)
     case measure=>simp [intOf]; omega
    ·
     have ek:L.take k = L:=List.take_of_length_le (by omega)
     rw [ek] at hown
     clear ek
     go_wp2
     go_ret2
     refine ⟨_,by rw [HP.out]; rfl,?_,bel_adv hb1 hbel⟩
     rw [HR.out]
     exact hown.weaken hb1.size
 ·
  have h0':(cErr xs ys != 0) = true:=by simpa using h0
  have HE:Hid (pErr r em p xs ys = cErr xs ys):=by rw [Hid,pErr,if_pos h0]
  have H0:=Lib.hid h0
  clear h0
  go_wp2
  go_ret2
  exact PostsPost.fail (pR_nil HE.out H0.out) HE.out hb1
end Go.Proofs.YtjncpgbhokjbfaaGreat
namespace Go.Proofs.YtjncpgbhokjbfaaGreat
open Go.RowKit
theorem mErr_bd {l:List BookT} (hl:l.length≤131072) (hok : ∀ x ∈ l,okB x = true) (ht : ∀ c,maxN (RB.tot l c) = true) : mErrB l = 0:=by
 rw [mErrB_4 (by omega) (List.all_eq_true.2 hok)]
 cases hh:overB (RB.sums l)
 ·
  rfl
 ·
  obtain ⟨c,_,hc2⟩:=(Rec.any_iff RB_law maxN (Rec.sums_sorted RB_law l)).1 hh
  rw [Rec.sums_tot RB_law,ht c] at hc2
  cases hc2
theorem mRB_mem {l:List BookT} (h:mErrB l = 0) (x:BookT) : x ∈ mRB l ↔ (RB.amt x = RB.tot l (RB.key x)∧RB.amt x ≠ 0):=by
 rw [mRB_ok h,List.mem_filter,Rec.mem_sorted RB_law (Rec.sums_sorted RB_law l),Rec.mem_nz,Rec.sums_has RB_law,Rec.sums_tot RB_law]
 constructor
 ·
  rintro ⟨⟨_,h2⟩,h3⟩; exact ⟨h2,h3⟩
 ·
  rintro ⟨h2,h3⟩; exact ⟨⟨Rec.has_of_tot (by rw [← h2]; exact h3),h2⟩,h3⟩
theorem mRB_ext {l m : List BookT} (hl:mErrB l = 0) (hm:mErrB m = 0) (h : ∀ c,RB.tot l c = RB.tot m c) : mRB l = mRB m:=by
 refine Rec.sorted_ext RB_law (mRB_facts l).1 (mRB_facts m).1 fun x=>?_
 rw [mRB_mem hl,mRB_mem hm,h]
theorem mRB_tot {l:List BookT} (h:mErrB l = 0) (c:KeyB) : RB.tot (mRB l) c = RB.tot l c:=by
 rw [mRB_ok h,Rec.tot_filter,Rec.sums_tot RB_law]
end Go.Proofs.YtjncpgbhokjbfaaGreat
namespace Go.Proofs.YtjncpgbhokjbfaaGreat
open Go.RowKit
def absN (n:Int) : Int:=if n < 0 then -n else n
theorem absN_ge (n:Int) : n≤absN n∧-n≤absN n∧0≤absN n:=by unfold absN; split <;> omega
theorem absN_add (a b : Int) : absN (a+b)≤absN a+absN b:=by unfold absN; split <;> split <;> split <;> omega
def absL : List LineT→Int
 | []=>0
 | x :: r=>absN x.amount+absL r
theorem absL_append (l m : List LineT) : absL (l++m) = absL l+absL m:=by
 induction l with
 | nil=>simp [absL]
 | cons a l ih=>simp [absL,ih]; omega
theorem absL_nonneg (l:List LineT) : 0≤absL l:=by
 induction l with
 | nil=>simp [absL]
 | cons a l ih=>have:=(absN_ge a.amount).2.2; simp only [absL]; omega
theorem absL_mem {l:List LineT} {x:LineT} (h:x ∈ l) : -absL l≤x.amount∧x.amount≤absL l:=by
 induction l with
 | nil=>cases h
 | cons a l ih =>
  have h1:=absN_ge a.amount
  have h2:=absL_nonneg l
  simp only [absL]
  rcases List.mem_cons.1 h with e | e
  ·
   subst e; omega
  ·
   have:=ih e; omega
theorem absL_filter (p:LineT→Bool) (l:List LineT) : absL (l.filter p)≤absL l:=by
 induction l with
 | nil=>simp [absL]
 | cons a l ih =>
  have h1:=absN_ge a.amount
  rw [List.filter_cons]
  split <;> simp only [absL] <;> omega
theorem absL_tot (l:List LineT) (c:Int × List UInt8) : -absL l≤RL.tot l c∧RL.tot l c≤absL l:=by
 induction l with
 | nil=>simp [absL,Rec.tot]
 | cons a l ih =>
  have h1:=absN_ge a.amount
  have e:RL.amt a = a.amount:=rfl
  simp only [absL,Rec.tot]
  split <;> omega
theorem absL_put (l:List LineT) (e:LineT) : absL (RL.put l e)≤absL l+absN e.amount:=by
 induction l with
 | nil=>simp [Rec.put,absL]
 | cons a l ih =>
  rw [Rec.put]
  split
  ·
   simp only [absL]; omega
  ·
   split
   ·
    have:=absN_add e.amount a.amount
    have e1:(RL.set e (RL.amt e+RL.amt a)).amount = e.amount+a.amount:=rfl
    simp only [absL,e1]; omega
   ·
    simp only [absL]; omega
theorem absL_foldl (l:List LineT) : ∀ acc,absL (l.foldl RL.put acc)≤absL acc+absL l:=by
 induction l with
 | nil=>intro acc; simp [absL]
 | cons a l ih =>
  intro acc
  have h1:=ih (RL.put acc a)
  have h2:=absL_put acc a
  rw [List.foldl_cons]
  simp only [absL]; omega
theorem absL_neg (l:List LineT) : absL (l.map RL.neg) = absL l:=by
 induction l with
 | nil=>rfl
 | cons a l ih =>
  have e:(RL.neg a).amount = -a.amount:=rfl
  have e2:absN (-a.amount) = absN a.amount:=by unfold absN; split <;> split <;> omega
  rw [List.map_cons]
  simp only [absL,ih,e,e2]
theorem balS_put (l:List LineT) (e:LineT) : balS (RL.put l e) = balS l+sgL e.kind * e.amount:=by
 induction l with
 | nil=>simp [Rec.put,balS]
 | cons a l ih =>
  rw [Rec.put]
  split
  ·
   simp only [balS,ih]; omega
  ·
   split
   ·
    rename_i hk
    have e1:(RL.set e (RL.amt e+RL.amt a)).amount = e.amount+a.amount:=rfl
    have e2:(RL.set e (RL.amt e+RL.amt a)).kind = e.kind:=rfl
    have e3:a.kind = e.kind:=by
     have:=congrArg Prod.fst hk
     exact this
    simp only [balS,e1,e2,e3,Int.mul_add]; omega
   ·
    simp only [balS]; omega
theorem balS_foldl (l:List LineT) : ∀ acc,balS (l.foldl RL.put acc) = balS acc+balS l:=by
 induction l with
 | nil=>intro acc; simp [balS]
 | cons a l ih =>
  intro acc
  rw [List.foldl_cons,ih,balS_put]
  simp only [balS]; omega
theorem balS_neg (l:List LineT) : balS (l.map RL.neg) = -balS l:=by
 induction l with
 | nil=>rfl
 | cons a l ih =>
  have e:(RL.neg a).amount = -a.amount:=rfl
  have e2:(RL.neg a).kind = a.kind:=rfl
  rw [List.map_cons]
  simp only [balS,ih,e,e2,Int.mul_neg]; omega
theorem balS_filter (l:List LineT) : balS (l.filter RL.nz) = balS l:=by
 induction l with
 | nil=>rfl
 | cons a l ih =>
  rw [List.filter_cons]
  split
  ·
   simp only [balS,ih]
  ·
   rename_i h
   have:a.amount = 0:=by
    apply Decidable.byContradiction
    intro hh
    exact h ((Rec.mem_nz a).2 hh)
   simp only [balS,ih,this]; simp
structure SlipZ (l:List LineT) : Prop where
 sorted:RL.Sorted l
 ln:∀ x ∈ l,LnOk x
 len:l.length≤256
 bal:balS l = 0
 code:∀ x ∈ l,x.kind = 1→x.code ∈ codes4
 abs:absL l≤260000000000
theorem SlipZ.nil_ : SlipZ []:=⟨List.Pairwise.nil,by simp,by simp,rfl,by simp,by simp [absL]⟩
def absE : List Elem→Int
 | []=>0
 | x :: r=>absN x.amount+absE r
theorem absE_filter (p:Elem→Bool) (l:List Elem) : absE (l.filter p)≤absE l:=by
 induction l with
 | nil=>simp [absE]
 | cons a l ih =>
  have h1:=absN_ge a.amount
  rw [List.filter_cons]
  split <;> simp only [absE] <;> omega
theorem absE_split (p:Elem→Bool) (l:List Elem) : absE (l.filter p)+absE (l.filter fun x=>!p x) = absE l:=by
 induction l with
 | nil=>rfl
 | cons a l ih =>
  rw [List.filter_cons,List.filter_cons]
  cases p a <;> simp [absE] <;> omega
theorem absE_pos {l:List Elem} (h : ∀ x ∈ l,0≤x.amount) : absE l = sumE l:=by
 induction l with
 | nil=>rfl
 | cons a l ih =>
  have h1:=h a (by simp)
  have h2:=ih (fun x hx=>h x (by simp [hx]))
  simp only [absE,sumE,h2,absN]
  split <;> omega
theorem absE_bd {l:List Elem} {B:Int} (h : ∀ x ∈ l,-B≤x.amount∧x.amount≤B) : absE l≤l.length * B:=by
 induction l with
 | nil=>simp [absE]
 | cons a l ih =>
  have h1:=h a (by simp)
  have h2:=ih (fun x hx=>h x (by simp [hx]))
  have h3:absN a.amount≤B:=by unfold absN; split <;> omega
  simp only [absE,List.length_cons]
  rw [show ((l.length+1:Nat) : Int) * B = l.length * B+B by rw [Int.natCast_add,Int.add_mul]; omega]
  omega
theorem absL_lines (k:Int) (l:List Elem) : absL (linesK k l)≤absE l:=by
 refine Int.le_trans ?_ (absE_filter nz l)
 unfold linesK
 induction l.filter nz with
 | nil=>simp [absL,absE]
 | cons a l ih=>simp only [List.map_cons,absL,absE]; omega
theorem findW_code {ws:List WageT} {c:ByteArray} (h : (findW ws c).isSome = true) : ∃ x ∈ ws,x.code = c:=by
 obtain ⟨x,hx⟩:=Option.isSome_iff_exists.1 h
 unfold findW at hx
 exact ⟨x,List.mem_of_find?_eq_some hx,by
  have h1:x.code.toList = c.toList:=by simpa [hasC] using List.find?_some hx
  rw [ByteArray.toList_eq,ByteArray.toList_eq] at h1
  exact ba_ext h1⟩
theorem InOk.slipZ {I:NetIn} (h:InOk I) (he:I.err = 0) (hw : ∀ x ∈ I.r.wages,x.code ∈ codes4) : SlipZ I.lines:=by
 have P:=h.parts he
 have S:=h.slip he
 refine ⟨S.sorted,S.ln,S.len,S.bal,fun x hx hk=>?_,?_⟩
 ·
  obtain ⟨y,hy,e⟩:=findW_code (S.code x hx hk)
  rw [← e]; exact hw y hy
 ·
  obtain ⟨_,ho,_,hov,_⟩:=NetIn.err_inv he
  obtain ⟨_,hpre,_,hamt⟩:=ofErr_inv ho
  obtain ⟨hbd,_⟩:=preErr_zero hpre
  obtain ⟨_,_,_,⟨i0,i1⟩,_⟩:=amts_bd hamt
  have hm:absE I.merged≤128000000000:=by
   have h1:=absE_bd (l:=I.merged) (B:=1000000000) (fun x hx=>hbd x (mem_flt hx))
   have h2:=P.mlen
   omega
  have h12:=absE_split (earnB I.r.wages) I.merged
  have h3:=absE_pos P.bpos
  have h4:=absE_pos P.opos
  have h5:=absE_pos P.epos
  have h7:=absE_pos P.apos
  have h8:=absE_pos P.fpos
  have hb:=P.bsum
  have hc:=P.cbd
  have hl:=P.levies
  have ht:=P.tax
  have ha:=P.asum
  have hf:=P.fsum
  have hown:sumE (I.ownTo I.r.schemes) = I.levies:=sumE_own I _
  have hper:=(NetIn.err_inv he).1
  have eb:I.b = sumB I.r.wages (sumsP I.e):=rfl
  have hins:I.insured≤1000000000:=by unfold NetIn.insured; rw [eb]; omega
  have hemp:absE (I.emplTo I.r.schemes)≤12000000000:=by
   have h1:=absE_bd (l:=I.emplTo I.r.schemes) (B:=1000000000) (fun x hx=>by
    obtain ⟨s,hs,rfl⟩:=List.mem_map.1 hx
    have:=h.levy hper hins hs (by
     have:=List.any_eq_false.1 hov s hs
     simpa using this)
    show -1000000000≤(I.levyOf s).employer∧(I.levyOf s).employer≤1000000000
    omega)
   have h2:(I.emplTo I.r.schemes).length≤12:=by simp only [NetIn.emplTo,List.length_map]; exact h.r.nsch
   omega
  have l5:I.left5 = I.b.c - sumE I.before - I.levies - I.tax - sumE I.attached - sumE I.after:=by
   unfold NetIn.left5 NetIn.left4 NetIn.left3 NetIn.left2 NetIn.left1; omega
  have a1:=absL_lines 1 I.earn
  have a2:=absL_lines 2 I.bene
  have a3:=absL_lines 3 I.before
  have a4:=absL_lines 4 (I.ownTo I.r.schemes)
  have a5:=absL_lines 5 (I.emplTo I.r.schemes)
  have a6:=absL_lines 6 [⟨⟨#[]⟩,I.tax⟩]
  have a7:=absL_lines 7 I.attached
  have a8:=absL_lines 8 I.after
  have a9:=absL_lines 9 [⟨⟨#[]⟩,max I.left5 0⟩]
  have a10:=absL_lines 10 [⟨⟨#[]⟩,max (-I.left5) 0⟩]
  have b6:absN I.tax≤1000000000:=by unfold absN; split <;> omega
  have b9:absN (max I.left5 0)≤40000000000:=by unfold absN; split <;> omega
  have b10:absN (max (-I.left5) 0)≤40000000000:=by unfold absN; split <;> omega
  simp only [absE] at a6 a9 a10
  have e1:absE I.earn+absE I.bene = absE I.merged:=h12
  simp only [NetIn.lines,absL_append]
  omega
theorem mR_mem {l:List LineT} (hl:mErr l = 0) (x:LineT) : x ∈ mR l ↔ RL.amt x = RL.tot l (RL.key x)∧RL.amt x ≠ 0:=by
 rw [mR,if_pos hl,List.mem_filter,Rec.mem_sorted RL_law (Rec.sums_sorted RL_law l),Rec.mem_nz,Rec.sums_tot RL_law]
 constructor
 ·
  rintro ⟨⟨_,a⟩,b⟩; exact ⟨a,b⟩
 ·
  rintro ⟨a,b⟩
  refine ⟨⟨?_,a⟩,b⟩
  apply Rec.has_of_tot
  rw [Rec.sums_tot RL_law,← a]; exact b
theorem mR_totL {l:List LineT} (h:mErr l = 0) (c:Int × List UInt8) : RL.tot (mR l) c = RL.tot l c:=by
 rw [mR,if_pos h,Rec.tot_filter,Rec.sums_tot RL_law]
theorem mErr_tot {l:List LineT} (hl:l.length≤65536) (hf : ∀ x ∈ l,formB x = true) (ht : ∀ c,-1000000000000≤RL.tot l c∧RL.tot l c≤1000000000000) : mErr l = 0:=by
 have h1:l.any (fun x=>!formB x) = false:=by
  rw [List.any_eq_false]; intro x hx; simp [hf x hx]
 rw [mErr_cases l hl h1]
 have h4:anyOver (RL.sums l) = false:=by
  cases hh:anyOver (RL.sums l)
  ·
   rfl
  ·
   obtain ⟨c,_,hc2⟩:=(Rec.any_iff RL_law maxN (Rec.sums_sorted RL_law l)).1 hh
   rw [Rec.sums_tot RL_law] at hc2
   have:=ht c
   simp [maxN] at hc2
   omega
 rw [h4]; rfl
theorem form_of' {x:LineT} (h:formZ x = true) : formB x = true:=by
 rw [formZ,Bool.and_eq_true] at h; exact h.1
theorem formZ_nz {x:LineT} (h:formZ x = true) : x.amount ≠ 0:=by
 rw [formZ,Bool.and_eq_true] at h; simpa using h.2
theorem mR_slip {l now : List LineT} (hn:SlipZ now) (hl:l.length≤65536) (hf : ∀ x ∈ l,formB x = true) (ht : ∀ c,RL.tot l c = RL.tot now c) : mErr l = 0∧mR l = now:=by
 have hb:∀ c,-1000000000000≤RL.tot l c∧RL.tot l c≤1000000000000:=fun c=>by
  have:=absL_tot now c
  have:=hn.abs
  rw [ht]; omega
 have h0:=mErr_tot hl hf hb
 refine ⟨h0,Rec.sorted_ext RL_law (mR_sorted l) hn.sorted fun x=>?_⟩
 rw [mR_mem h0,ht,Rec.mem_sorted RL_law hn.sorted]
 constructor
 ·
  rintro ⟨a,b⟩
  exact ⟨Rec.has_of_tot (by rw [← a]; exact b),a⟩
 ·
  rintro ⟨a,b⟩
  refine ⟨b,?_⟩
  have hx:=(Rec.mem_sorted RL_law hn.sorted x).2 ⟨a,b⟩
  exact formZ_nz (hn.ln x hx).form
theorem SlipZ.self {now:List LineT} (hn:SlipZ now) : mErr now = 0∧mR now = now :=
 mR_slip hn (by have:=hn.len; omega) (fun x hx=>form_of' (hn.ln x hx).form) (fun _=>rfl)
structure DiffZ (a b d : List LineT) : Prop where
 tot:∀ c,RL.tot d c = RL.tot b c - RL.tot a c
 form:∀ x ∈ d,formZ x = true
 len:d.length≤512
 bal:balS d = 0
 code:∀ x ∈ d,x.kind = 1→x.code ∈ codes4
 abs:absL d≤520000000000
theorem form_key {x y : LineT} (hy:formB y = true) (e:RL.key y = RL.key x) (hm:maxN x.amount = true) : formB x = true:=by
 injection e with e1 e2
 have e3:y.code = x.code:=ba_ext e2
 simp only [formB,codeB,e1,e3,Bool.and_eq_true,decide_eq_true_eq] at hy ⊢
 exact ⟨⟨⟨hy.1.1.1,hy.1.1.2⟩,hm⟩,hy.2⟩
theorem diff_slip {a b : List LineT} (ha:SlipZ a) (hb:SlipZ b) : cErr a b = 0∧DiffZ a b (cR a b):=by
 obtain ⟨ha0,ha1⟩:=ha.self
 obtain ⟨hb0,hb1⟩:=hb.self
 obtain ⟨s1,s2,s3⟩:=cmpL_facts (x:=a) hb.sorted
 have habs:absL (cmpL a b)≤520000000000:=by
  have h1:=absL_foldl (a.map RL.neg) b
  rw [absL_neg] at h1
  have:=ha.abs
  have:=hb.abs
  show absL ((a.map RL.neg).foldl RL.put b)≤_
  omega
 have hamt:∀ x ∈ cmpL a b,maxN x.amount = true:=fun x hx=>by
  have:=absL_mem hx
  simp [maxN]; omega
 have h4:anyOver (cmpL a b) = false:=by
  rw [anyOver,List.any_eq_false]; intro x hx; simp [hamt x hx]
 have he:cErr a b = 0:=by rw [cErr_ok ha0 hb0,ha1,hb1,h4]; rfl
 have hR:cR a b = (cmpL a b).filter RL.nz:=by rw [cR,if_pos he,ha1,hb1]
 have hkey:∀ x ∈ cmpL a b,∃ y,(y ∈ a ∨ y ∈ b)∧RL.key y = RL.key x:=fun x hx=>by
  have h1:=((Rec.mem_sorted RL_law s1 x).1 hx).1
  rw [s3,Bool.or_eq_true] at h1
  rcases h1 with h1 | h1
  ·
   obtain ⟨y,hy,e⟩:=List.any_eq_true.1 h1
   exact ⟨y,.inr hy,by simpa using e⟩
  ·
   obtain ⟨y,hy,e⟩:=List.any_eq_true.1 h1
   exact ⟨y,.inl hy,by simpa using e⟩
 refine ⟨he,⟨fun c=>by rw [hR,Rec.tot_filter,s2],fun x hx=>?_,?_,?_,fun x hx hk=>?_,?_⟩⟩
 ·
  rw [hR,List.mem_filter] at hx
  obtain ⟨y,hy,e⟩:=hkey x hx.1
  have hy2:formB y = true:=by
   rcases hy with hy | hy
   ·
    exact form_of' (ha.ln y hy).form
   ·
    exact form_of' (hb.ln y hy).form
  have h6:=form_key hy2 e (hamt x hx.1)
  have h3:x.amount ≠ 0:=(Rec.mem_nz x).1 hx.2
  rw [formZ,h6]
  simpa using h3
 ·
  rw [hR]
  have h1:=List.length_filter_le RL.nz (cmpL a b)
  have h2:=cmpL_len a b
  have:=ha.len
  have:=hb.len
  omega
 ·
  rw [hR,balS_filter]
  show balS ((a.map RL.neg).foldl RL.put b) = 0
  rw [balS_foldl,balS_neg,ha.bal,hb.bal]; rfl
 ·
  rw [hR,List.mem_filter] at hx
  obtain ⟨y,hy,e⟩:=hkey x hx.1
  injection e with e1 e2
  have e3:y.code = x.code:=ba_ext e2
  rw [← e3]
  rcases hy with hy | hy
  ·
   exact ha.code y hy (by rw [e1]; exact hk)
  ·
   exact hb.code y hy (by rw [e1]; exact hk)
 ·
  rw [hR]
  have:=absL_filter RL.nz (cmpL a b)
  omega
def selB (e p : Int) (x:PostT) : Bool:=x.employee == e && x.period == p
def selL (e p : Int) (xs:List PostT) : List LineT:=(xs.filter (selB e p)).map (·.line)
def runL (r:Int) (xs:List PostT) : List LineT:=(xs.filter fun x=>x.run == r).map (·.line)
structure BkInv (R:Int) (xs:List PostT) : Prop where
 ok:∀ x ∈ xs,(1≤x.run∧x.run≤R)∧(1≤x.employee∧x.employee≤2)∧(0≤x.period∧x.period≤1)∧formZ x.line = true
 asc:xs.Pairwise (fun a b=>a.run≤b.run)
 len:(xs.length:Int)≤512 * R
 code:∀ x ∈ xs,x.line.kind = 1→x.line.code ∈ codes4
 cur:∀ e p,mErr (selL e p xs) = 0∧SlipZ (mR (selL e p xs))
 bal:∀ r,balS (runL r xs) = 0
 abs:∀ r,absL (runL r xs)≤520000000000
theorem mErr_nilL : mErr [] = 0:=by simp [mErr,anyOver,Rec.sums]
theorem mR_nilL : mR [] = []:=by simp [mR,mErr_nilL,Rec.sums]
theorem BkInv.nil_ : BkInv 0 []:=by
 refine ⟨by simp,List.Pairwise.nil,by simp,by simp,fun e p=>?_,fun r=>?_,fun r=>?_⟩
 ·
  show mErr [] = 0∧SlipZ (mR [])
  rw [mR_nilL]; exact ⟨mErr_nilL,SlipZ.nil_⟩
 ·
  rfl
 ·
  simp [runL,absL]
theorem BkInv.more {R R' : Int} {xs:List PostT} (h:BkInv R xs) (hR:R≤R') : BkInv R' xs :=
 ⟨fun x hx=>by obtain ⟨⟨a,b⟩,c⟩:=h.ok x hx; exact ⟨⟨a,by omega⟩,c⟩,h.asc,by have:=h.len; omega,h.code,h.cur,h.bal,h.abs⟩
theorem selL_append (e p : Int) (xs ys : List PostT) : selL e p (xs++ys) = selL e p xs++selL e p ys:=by simp [selL]
theorem runL_append (r:Int) (xs ys : List PostT) : runL r (xs++ys) = runL r xs++runL r ys:=by simp [runL]
theorem selL_post (r e p : Int) (d:List LineT) (o q : Int) : selL o q (postR r e p d) = if e = o∧p = q then d else []:=by
 induction d with
 | nil=>simp [selL,postR]
 | cons a d ih =>
  have e1:selL o q (postR r e p (a :: d)) = (if (e == o && p == q) = true then [a] else [])++selL o q (postR r e p d):=by
   unfold selL postR selB
   rw [List.map_cons,List.filter_cons]
   split <;> simp
  rw [e1,ih]
  by_cases h:e = o∧p = q
  ·
   simp [h]
  ·
   rw [if_neg h,if_neg h]
   have:¬ (e == o && p == q) = true:=by simpa using h
   rw [if_neg this]; rfl
theorem runL_post (r e p : Int) (d:List LineT) (s:Int) : runL s (postR r e p d) = if r = s then d else []:=by
 induction d with
 | nil=>simp [runL,postR]
 | cons a d ih =>
  have e1:runL s (postR r e p (a :: d)) = (if (r == s) = true then [a] else [])++runL s (postR r e p d):=by
   unfold runL postR
   rw [List.map_cons,List.filter_cons]
   split <;> simp
  rw [e1,ih]
  by_cases h:r = s
  ·
   simp [h]
  ·
   rw [if_neg h,if_neg h]
   have:¬ (r == s) = true:=by simpa using h
   rw [if_neg this]; rfl
theorem runL_high {R r : Int} {xs:List PostT} (h:BkInv R xs) (hr:R < r) : runL r xs = []:=by
 unfold runL
 rw [List.filter_eq_nil_iff.2]
 ·
  rfl
 ·
  intro x hx
  have:=(h.ok x hx).1
  simp; omega
theorem BkInv.step {R e p : Int} {xs:List PostT} {now:List LineT} (h:BkInv R xs) (hR:0≤R) (hR2:R≤100) (he:1≤e∧e≤2) (hp:0≤p∧p≤1) (hn:SlipZ now) :
  pErr (R+1) e p (mR (selL e p xs)) now = 0∧BkInv (R+1) (xs++pR (R+1) e p (mR (selL e p xs)) now)∧mR (selL e p (xs++pR (R+1) e p (mR (selL e p xs)) now)) = now ∧
   ∀ o q,¬ (e = o∧p = q)→selL o q (xs++pR (R+1) e p (mR (selL e p xs)) now) = selL o q xs:=by
 obtain ⟨hc1,hc2⟩:=h.cur e p
 obtain ⟨hd1,hd2⟩:=diff_slip hc2 hn
 have hrg:rangeB (R+1) e p = true:=by simp [rangeB,inR]; omega
 have hE:pErr (R+1) e p (mR (selL e p xs)) now = 0:=by rw [pErr,hd1,if_neg (by simp),hrg]; rfl
 have hP:pR (R+1) e p (mR (selL e p xs)) now = postR (R+1) e p (cR (mR (selL e p xs)) now):=by rw [pR,if_pos hE]
 rw [hP]
 generalize cR (mR (selL e p xs)) now = d at *
 have hpo:∀ x ∈ postR (R+1) e p d,x.run = R+1∧x.employee = e∧x.period = p∧x.line ∈ d:=fun x hx=>by
  obtain ⟨y,hy,rfl⟩:=List.mem_map.1 hx
  exact ⟨rfl,rfl,rfl,hy⟩
 have hlen:((xs++postR (R+1) e p d).length:Int)≤512 * (R+1):=by
  rw [List.length_append,postR_len]
  have:=h.len
  have:=hd2.len
  omega
 have hform:∀ x ∈ xs++postR (R+1) e p d,formZ x.line = true:=fun x hx=>by
  rcases List.mem_append.1 hx with hx | hx
  ·
   exact (h.ok x hx).2.2.2
  ·
   exact hd2.form _ (hpo x hx).2.2.2
 have hself:mErr (selL e p (xs++postR (R+1) e p d)) = 0∧mR (selL e p (xs++postR (R+1) e p d)) = now:=by
  refine mR_slip hn ?_ (fun x hx=>?_) (fun c=>?_)
  ·
   unfold selL
   rw [List.length_map]
   have h1:=List.length_filter_le (selB e p) (xs++postR (R+1) e p d)
   omega
  ·
   obtain ⟨y,hy,rfl⟩:=List.mem_map.1 hx
   exact form_of' (hform y (List.mem_filter.1 hy).1)
  ·
   rw [selL_append,selL_post,if_pos ⟨rfl,rfl⟩,Rec.tot_append,hd2.tot,mR_totL hc1]; omega
 have hoth:∀ o q,¬ (e = o∧p = q)→selL o q (xs++postR (R+1) e p d) = selL o q xs:=fun o q hne=>by
  rw [selL_append,selL_post,if_neg hne,List.append_nil]
 refine ⟨hE,⟨fun x hx=>?_,?_,hlen,fun x hx hk=>?_,fun o q=>?_,fun r=>?_,fun r=>?_⟩,hself.2,hoth⟩
 ·
  refine ⟨?_,?_,?_,hform x hx⟩
  all_goals
   rcases List.mem_append.1 hx with hx | hx
  ·
   have:=(h.ok x hx).1; omega
  ·
   have:=hpo x hx; omega
  ·
   exact (h.ok x hx).2.1
  ·
   have:=hpo x hx; omega
  ·
   exact (h.ok x hx).2.2.1
  ·
   have:=hpo x hx; omega
 ·
  rw [List.pairwise_append]
  refine ⟨h.asc,List.pairwise_of_forall_mem_list fun a ha b hb=>?_,fun a ha b hb=>?_⟩
  ·
   have:=(hpo a ha).1; have:=(hpo b hb).1; omega
  ·
   have:=(h.ok a ha).1.2; have:=(hpo b hb).1; omega
 ·
  rcases List.mem_append.1 hx with hx | hx
  ·
   exact h.code x hx hk
  ·
   exact hd2.code _ (hpo x hx).2.2.2 hk
 ·
  by_cases hne:e = o∧p = q
  ·
   obtain ⟨rfl,rfl⟩:=hne
   rw [hself.2]; exact ⟨hself.1,hn⟩
  ·
   rw [hoth o q hne]; exact h.cur o q
 ·
  rw [runL_append,runL_post,balS_append]
  have:=h.bal r
  split
  ·
   rw [hd2.bal]; omega
  ·
   simp [balS]; omega
 ·
  rw [runL_append,runL_post,absL_append]
  split
  ·
   rename_i hh
   subst hh
   rw [runL_high h (by omega)]
   have:=hd2.abs
   simp [absL]; omega
  ·
   have:=h.abs r
   simp [absL]; omega
theorem BkInv.book {R:Int} {xs:List PostT} (h:BkInv R xs) (hR:0≤R) (hR2:R≤100) : bookB xs = true:=by
 refine (bookB_iff xs).2 ⟨by have:=h.len; omega,fun i hi=>?_,fun x hx=>?_⟩
 ·
  exact List.pairwise_iff_getElem.1 h.asc i (i+1) (by omega) hi (by omega)
 ·
  obtain ⟨a,b,c,d⟩:=h.ok x hx
  refine (validP_iff x).2 ⟨by omega,by omega,by omega,d⟩
theorem form_size {x:LineT} (h:formB x = true) : x.code.size≤24:=by
 simp only [formB,codeB,Bool.and_eq_true] at h
 have h1:=h.2
 split at h1
 ·
  have:=of_decide_eq_true h1; omega
 ·
  exact name_size h1
theorem BkInv.size {R:Int} {xs:List PostT} (h:BkInv R xs) : ∀ x ∈ xs,x.line.code.size≤maxLen:=fun x hx =>
 Nat.le_trans (form_size (form_of' (h.ok x hx).2.2.2)) (by unfold maxLen; omega)
theorem SlipZ.size {l:List LineT} (h:SlipZ l) : ∀ x ∈ l,x.code.size≤maxLen:=fun x hx =>
 Nat.le_trans (form_size (form_of' (h.ln x hx).form)) (by unfold maxLen; omega)
end Go.Proofs.YtjncpgbhokjbfaaGreat
