/- Joined texts: CmpI Rec Rec2 Bk Wage. Conditions: as stated. -/
import Derived.WalkKit
import Derived.WalkSpells
import Derived.WalkLawsBesides
import Derived.Deep.QuietTactic
import Derived.BigQuiet
import Derived.Lib.Hide
import Derived.Test.YtjncpgbhokjbfaaGreatRows
import Derived.Below
import Derived.Deep.Light
import Derived.Test.YtjncpgbhokjbfaaGreatJ01
namespace Go.Proofs.YtjncpgbhokjbfaaGreat
open Go.RowKit
def cmpI (a b : Int) : Int:=if a < b then -1 else if b < a then 1 else 0
def maxN (n:Int) : Bool:=decide (-1000000000000≤n∧n≤1000000000000)
set_option maxHeartbeats 400000 in
theorem isNaNI_any (a:Int) (w:World) : Calls Tryz.prog 134 #[.int .i64 a] w fun e w'=>e = .returned (.bool false)∧w = w':=by
 go_enter Tryz.func134,Tryz.ntmps134
 go_wp2
 go_ret
 exact ⟨by simp,rfl⟩
set_option maxHeartbeats 400000 in
theorem compareI_any (a b : Int) (w:World) : Calls Tryz.prog 75 #[.int .i64 a,.int .i64 b] w fun e w'=>e = .returned (.int .i64 (cmpI a b))∧w = w':=by
 go_enter Tryz.func75,Tryz.ntmps75
 go_wp2_with (go_at_call 134; refine (isNaNI_any _ _).mono ?_; rintro e w' ⟨rfl,rfl⟩)
 all_goals go_ret
 all_goals refine ⟨?_,rfl⟩
 all_goals (simp [cmpI, *]; try omega)
def orI (a b : Int) : Int:=if a ≠ 0 then a else b
set_option maxHeartbeats 1000000 in
theorem or_any (a b : Int) (c g off : Nat) (w:World) (h1:w.cell? ⟨g,off,none⟩ = some (.int .i64 a)) (h2:w.cell? ⟨g,off+1,none⟩ = some (.int .i64 b)) :
  Calls Tryz.prog 74 #[.slice (some ⟨g,off,none⟩) 2 c] w fun e w'=>e = .returned (.int .i64 (orI a b))∧w = w':=by
 by_cases ha:a = 0
 ·
  have HO:Hid (orI a b = b):=by simp [Hid,orI,ha]
  have ha':(a != 0) = false:=by simp [ha]
  clear ha
  by_cases hb:b = 0
  ·
   have HB:=Lib.hid hb
   have hb':(b != 0) = false:=by simp [hb]
   clear hb
   go_enter Tryz.func74,Tryz.ntmps74
   go_wp2
   refine wp_loop_rounds 3 ?_
   rw [rounds_succ]
   go_wp2
   rw [rounds_succ]
   go_wp2
   rw [rounds_succ]
   go_wp2
   go_ret
   exact ⟨by rw [HO.out,HB.out]; rfl,rfl⟩
  ·
   have hb':(b != 0) = true:=by simp [hb]
   clear hb
   go_enter Tryz.func74,Tryz.ntmps74
   go_wp2
   refine wp_loop_rounds 2 ?_
   rw [rounds_succ]
   go_wp2
   rw [rounds_succ]
   go_wp2
   go_ret
   exact ⟨by rw [HO.out]; rfl,rfl⟩
 ·
  have HO:Hid (orI a b = a):=by simp [Hid,orI,ha]
  have ha':(a != 0) = true:=by simp [ha]
  clear ha
  go_enter Tryz.func74,Tryz.ntmps74
  go_wp2
  refine wp_loop_rounds 1 ?_
  rw [rounds_succ]
  go_wp2
  go_ret
  exact ⟨by rw [HO.out]; rfl,rfl⟩
end Go.Proofs.YtjncpgbhokjbfaaGreat
namespace Go.Proofs.YtjncpgbhokjbfaaGreat
structure Rec (α κ : Type) where
 key:α→κ
 amt:α→Int
 set:α→Int→α
 lt:κ→κ→Bool
structure Rec.Law {α κ : Type} (R:Rec α κ) : Prop where
 key_set:∀ x n,R.key (R.set x n) = R.key x
 amt_set:∀ x n,R.amt (R.set x n) = n
 ext:∀ x y,R.key x = R.key y→R.amt x = R.amt y→x = y
 irrefl:∀ a,R.lt a a = false
 trans:∀ a b c,R.lt a b = true→R.lt b c = true→R.lt a c = true
 total:∀ a b,R.lt a b = false→R.lt b a = false→a = b
section
variable {α κ:Type} [DecidableEq κ] (R:Rec α κ)
def Rec.put : List α→α→List α
 | [],e=>[e]
 | a :: l,e=>if R.lt (R.key a) (R.key e) then a :: Rec.put l e else if R.key a = R.key e then R.set e (R.amt e+R.amt a) :: l else e :: a :: l
def Rec.tot : List α→κ→Int
 | [],_=>0
 | x :: l,c=>(if R.key x = c then R.amt x else 0)+Rec.tot l c
def Rec.has (l:List α) (c:κ) : Bool:=l.any fun x=>decide (R.key x = c)
def Rec.Sorted (l:List α) : Prop:=l.Pairwise (fun a b=>R.lt (R.key a) (R.key b) = true)
def Rec.nz (x:α) : Bool:=R.amt x != 0
def Rec.neg (x:α) : α:=R.set x (-R.amt x)
def Rec.sums (l:List α) : List α:=l.foldl R.put []
def Rec.Bdd (B:Int) (l:List α) : Prop:=∀ x ∈ l,-B≤R.amt x∧R.amt x≤B
variable {R}
theorem Rec.tot_append (l m : List α) (c:κ) : R.tot (l++m) c = R.tot l c+R.tot m c:=by
 induction l with
 | nil=>simp [Rec.tot]
 | cons a l ih=>simp [Rec.tot,ih]; omega
end
section
variable {α κ:Type} {R:Rec α κ}
theorem Rec.mem_nz (x:α) : R.nz x = true ↔ R.amt x ≠ 0:=by simp [Rec.nz]
end
section
variable {α κ:Type} [DecidableEq κ] {R:Rec α κ}
theorem Rec.has_append (l m : List α) (c:κ) : R.has (l++m) c = (R.has l c || R.has m c):=by simp [Rec.has]
theorem Rec.tot_put (L:R.Law) (l:List α) (e:α) (c:κ) : R.tot (R.put l e) c = R.tot l c+(if R.key e = c then R.amt e else 0):=by
 induction l with
 | nil=>simp [Rec.put,Rec.tot]
 | cons a l ih =>
  rw [Rec.put]
  split
  ·
   simp only [Rec.tot,ih]; omega
  ·
   split
   ·
    rename_i h
    simp only [Rec.tot,L.key_set,L.amt_set,h]
    split <;> omega
   ·
    simp only [Rec.tot]; omega
theorem Rec.has_put (L:R.Law) (l:List α) (e:α) (c:κ) : R.has (R.put l e) c = (R.has l c || decide (R.key e = c)):=by
 induction l with
 | nil=>simp [Rec.put,Rec.has]
 | cons a l ih =>
  rw [Rec.put]
  unfold Rec.has at ih ⊢
  split
  ·
   simp only [List.any_cons,ih,Bool.or_assoc]
  ·
   split
   ·
    rename_i h
    simp only [List.any_cons,L.key_set,h]
    cases decide (R.key e = c) <;> simp
   ·
    simp only [List.any_cons]
    cases decide (R.key e = c) <;> simp
theorem Rec.put_keys (L:R.Law) (l:List α) (e x : α) (hx:x ∈ R.put l e) : R.key x = R.key e ∨ ∃ y ∈ l,R.key y = R.key x:=by
 have h:=Rec.has_put L l e (R.key x)
 have h1:R.has (R.put l e) (R.key x) = true:=List.any_eq_true.2 ⟨x,hx,by simp⟩
 rw [h1] at h
 have h2:=h.symm
 rw [Bool.or_eq_true] at h2
 rcases h2 with h2 | h2
 ·
  obtain ⟨y,hy,e⟩:=List.any_eq_true.1 h2
  exact .inr ⟨y,hy,by simpa using e⟩
 ·
  exact .inl (by simpa using h2:R.key e = R.key x).symm
theorem Rec.sorted_put (L:R.Law) {l:List α} (h:R.Sorted l) (e:α) : R.Sorted (R.put l e):=by
 induction l with
 | nil=>simp [Rec.put,Rec.Sorted]
 | cons a l ih =>
  obtain ⟨h1,h2⟩:=List.pairwise_cons.1 h
  rw [Rec.put]
  split
  ·
   rename_i hae
   refine List.pairwise_cons.2 ⟨fun x hx=>?_,ih h2⟩
   rcases Rec.put_keys L l e x hx with hc | ⟨y,hy,hc⟩
   ·
    rw [hc]; exact hae
   ·
    rw [← hc]; exact h1 y hy
  ·
   rename_i hae
   split
   ·
    rename_i hc
    refine List.pairwise_cons.2 ⟨fun x hx=>?_,h2⟩
    rw [L.key_set,← hc]
    exact h1 x hx
   ·
    rename_i hc
    have hea:R.lt (R.key e) (R.key a) = true:=by
     cases hh:R.lt (R.key e) (R.key a)
     ·
      exact absurd (L.total _ _ (by simpa using hae) hh) hc
     ·
      rfl
    refine List.pairwise_cons.2 ⟨fun x hx=>?_,h⟩
    rcases List.mem_cons.1 hx with rfl | hx
    ·
     exact hea
    ·
     exact L.trans _ _ _ hea (h1 x hx)
theorem Rec.foldl_facts (L:R.Law) (l:List α) : ∀ acc,R.Sorted acc→R.Sorted (l.foldl R.put acc)∧(∀ c,R.tot (l.foldl R.put acc) c = R.tot acc c+R.tot l c)∧∀ c,R.has (l.foldl R.put acc) c = (R.has acc c || R.has l c):=by
 induction l with
 | nil=>intro acc h; exact ⟨h,fun c=>by simp [Rec.tot],fun c=>by simp [Rec.has]⟩
 | cons a l ih =>
  intro acc h
  obtain ⟨h1,h2,h3⟩:=ih (R.put acc a) (Rec.sorted_put L h a)
  refine ⟨h1,fun c=>?_,fun c=>?_⟩
  ·
   rw [List.foldl_cons,h2,Rec.tot_put L]; simp only [Rec.tot]; omega
  ·
   rw [List.foldl_cons,h3,Rec.has_put L]
   simp only [Rec.has,List.any_cons,Bool.or_assoc]
theorem Rec.sums_sorted (L:R.Law) (l:List α) : R.Sorted (R.sums l):=(Rec.foldl_facts L l [] List.Pairwise.nil).1
theorem Rec.sums_tot (L:R.Law) (l:List α) (c:κ) : R.tot (R.sums l) c = R.tot l c:=by
 have:=(Rec.foldl_facts L l [] List.Pairwise.nil).2.1 c
 simpa [Rec.tot,Rec.sums] using this
theorem Rec.sums_has (L:R.Law) (l:List α) (c:κ) : R.has (R.sums l) c = R.has l c:=by
 have:=(Rec.foldl_facts L l [] List.Pairwise.nil).2.2 c
 simpa [Rec.has,Rec.sums] using this
theorem Rec.tot_out {l:List α} {c:κ} (h : ∀ x ∈ l,R.key x ≠ c) : R.tot l c = 0:=by
 induction l with
 | nil=>rfl
 | cons a l ih=>simp only [Rec.tot,if_neg (h a (by simp))]; rw [ih (fun x hx=>h x (by simp [hx]))]; rfl
theorem Rec.mem_sorted (L:R.Law) {l:List α} (h:R.Sorted l) (x:α) : x ∈ l ↔ (R.has l (R.key x) = true∧R.amt x = R.tot l (R.key x)):=by
 induction l with
 | nil=>simp [Rec.has]
 | cons a l ih =>
  obtain ⟨h1,h2⟩:=List.pairwise_cons.1 h
  have ih:=ih h2
  have hout:∀ y ∈ l,R.key y ≠ R.key a:=by
   intro y hy e
   have:=h1 y hy
   rw [e,L.irrefl] at this
   cases this
  by_cases hc:R.key a = R.key x
  ·
   have ht:R.tot l (R.key x) = 0:=by rw [← hc]; exact Rec.tot_out hout
   simp only [Rec.has,List.any_cons,Rec.tot,hc,decide_true,Bool.true_or,if_true,ht,true_and,List.mem_cons]
   constructor
   ·
    rintro (rfl | hx)
    ·
     omega
    ·
     exact absurd hc.symm (hout x hx)
   ·
    intro hx
    left
    exact L.ext _ _ hc.symm (by omega)
  ·
   have hne:x ≠ a:=by rintro rfl; exact hc rfl
   simp only [Rec.has,List.any_cons,Rec.tot,hc,decide_false,Bool.false_or,if_false,Int.zero_add,List.mem_cons,hne,false_or]
   exact ih
end
section
variable {α κ:Type} {R:Rec α κ}
theorem Rec.sorted_ext (L:R.Law) : ∀ {l m : List α},R.Sorted l→R.Sorted m→(∀ x,x ∈ l ↔ x ∈ m)→l = m
 | [],[],_,_,_=>rfl
 | [],b :: s,_,_,h=>by have:=(h b).2 (by simp); simp at this
 | a :: r,[],_,_,h=>by have:=(h a).1 (by simp); simp at this
 | a :: r,b :: s,h1,h2,h=>by
  obtain ⟨a1,a2⟩:=List.pairwise_cons.1 h1
  obtain ⟨b1,b2⟩:=List.pairwise_cons.1 h2
  have irr:∀ x:α,¬ R.lt (R.key x) (R.key x) = true:=fun x hx=>by rw [L.irrefl] at hx; cases hx
  have hab:a = b:=by
   rcases List.mem_cons.1 ((h a).1 (by simp)) with e | ha
   ·
    exact e
   ·
    rcases List.mem_cons.1 ((h b).2 (by simp)) with e | hb
    ·
     exact e.symm
    ·
     exact absurd (L.trans _ _ _ (a1 b hb) (b1 a ha)) (irr _)
  subst hab
  rw [Rec.sorted_ext L a2 b2 (fun p=>⟨fun hp=>by
   rcases List.mem_cons.1 ((h p).1 (by simp [hp])) with e | hp'
   ·
    subst e; exact absurd (a1 _ hp) (irr _)
   ·
    exact hp',fun hp=>by
   rcases List.mem_cons.1 ((h p).2 (by simp [hp])) with e | hp'
   ·
    subst e; exact absurd (b1 _ hp) (irr _)
   ·
    exact hp'⟩)]
end
section
variable {α κ:Type} [DecidableEq κ] {R:Rec α κ}
theorem Rec.filtered_eq (L:R.Law) {l ys : List α} (hL:R.Sorted l) (h:R.Sorted ys) (hm : ∀ x : α,x ∈ ys ↔ (R.has l (R.key x) = true∧R.amt x = R.tot l (R.key x)∧R.amt x ≠ 0)) : ys = l.filter R.nz:=by
 refine Rec.sorted_ext L h (hL.filter _) fun x=>?_
 rw [hm,List.mem_filter,Rec.mem_sorted L hL,Rec.mem_nz,and_assoc]
theorem Rec.any_iff (L:R.Law) (p:Int→Bool) {l:List α} (h:R.Sorted l) : l.any (fun x=>!p (R.amt x)) = true ↔ ∃ c,R.has l c = true∧p (R.tot l c) = false:=by
 rw [List.any_eq_true]
 constructor
 ·
  rintro ⟨x,hx,h2⟩
  rw [Rec.mem_sorted L h] at hx
  exact ⟨_,hx.1,by rw [← hx.2]; simpa using h2⟩
 ·
  rintro ⟨c,hc,h2⟩
  obtain ⟨x,hx,he⟩:=List.any_eq_true.1 hc
  have he':R.key x = c:=by simpa using he
  have hx2:=(Rec.mem_sorted L h x).1 hx
  rw [he'] at hx2
  exact ⟨x,hx,by rw [hx2.2]; simp [h2]⟩
theorem Rec.tot_neg (L:R.Law) (l:List α) (c:κ) : R.tot (l.map R.neg) c = -R.tot l c:=by
 induction l with
 | nil=>simp [Rec.tot]
 | cons a l ih =>
  simp only [List.map_cons,Rec.tot,ih,Rec.neg,L.key_set,L.amt_set]
  split <;> omega
theorem Rec.has_neg (L:R.Law) (l:List α) (c:κ) : R.has (l.map R.neg) c = R.has l c:=by
 simp only [Rec.has,List.any_map]
 congr
 funext x
 simp [Rec.neg,L.key_set]
theorem Rec.tot_filter (l:List α) (c:κ) : R.tot (l.filter R.nz) c = R.tot l c:=by
 induction l with
 | nil=>rfl
 | cons a l ih =>
  rw [List.filter_cons]
  by_cases h:R.nz a = true
  ·
   rw [if_pos h]; simp only [Rec.tot,ih]
  ·
   rw [if_neg h]
   have h0:R.amt a = 0:=by simpa [Rec.nz] using h
   simp only [Rec.tot,ih,h0]
   split <;> omega
theorem Rec.has_of_tot {l:List α} {c:κ} (h:R.tot l c ≠ 0) : R.has l c = true:=by
 cases hk:R.has l c
 ·
  exfalso
  apply h
  apply Rec.tot_out
  intro x hx e
  rw [Rec.has,List.any_eq_false] at hk
  exact hk x hx (by simp [e])
 ·
  rfl
theorem Rec.tot_bd (l:List α) (c:κ) (B:Int) (hB:0≤B) (h : ∀ x ∈ l,-B≤R.amt x∧R.amt x≤B) : -(l.length * B : Int)≤R.tot l c∧R.tot l c≤l.length * B:=by
 induction l with
 | nil=>simp [Rec.tot]
 | cons a l ih =>
  have h1:=ih (fun x hx=>h x (by simp [hx]))
  have h2:=h a (by simp)
  simp only [Rec.tot,List.length_cons]
  have e9:((l.length+1:Nat) : Int) * B = (l.length:Int) * B+B:=by rw [Int.natCast_add,Int.add_mul]; omega
  rw [e9]
  split <;> omega
theorem Rec.put_length (l:List α) (e:α) : (R.put l e).length≤l.length+1:=by
 induction l with
 | nil=>simp [Rec.put]
 | cons a l ih =>
  rw [Rec.put]
  split
  ·
   simp; omega
  ·
   split <;> simp
theorem Rec.foldl_length (l:List α) : ∀ acc : List α,(l.foldl R.put acc).length≤acc.length+l.length:=by
 induction l with
 | nil=>intro acc; simp
 | cons a l ih=>intro acc; have h1:=ih (R.put acc a); have h2:=Rec.put_length (R:=R) acc a; simp; omega
theorem Rec.sums_length (l:List α) : (R.sums l).length≤l.length:=by
 have:=Rec.foldl_length (R:=R) l []
 simpa [Rec.sums] using this
theorem Rec.Bdd.put (L:R.Law) {B C : Int} {l:List α} {e:α} (h:R.Bdd B l) (hB:0≤B) (hC:0≤C) (h1 : -C≤R.amt e) (h2:R.amt e≤C) : R.Bdd (B+C) (R.put l e):=by
 induction l with
 | nil=>intro x hx; simp [Rec.put] at hx; subst hx; omega
 | cons a l ih =>
  have ha:=h a (by simp)
  have hl:R.Bdd B l:=fun x hx=>h x (by simp [hx])
  intro x hx
  rw [Rec.put] at hx
  split at hx
  ·
   rcases List.mem_cons.1 hx with rfl | hx
   ·
    omega
   ·
    exact ih hl x hx
  ·
   split at hx
   ·
    rcases List.mem_cons.1 hx with rfl | hx
    ·
     rw [L.amt_set]; omega
    ·
     have:=hl x hx; omega
   ·
    rcases List.mem_cons.1 hx with rfl | hx
    ·
     omega
    ·
     have:=h x hx; omega
theorem Rec.sums_snoc (l:List α) (x:α) : R.sums (l++[x]) = R.put (R.sums l) x:=by simp [Rec.sums,List.foldl_append]
theorem Rec.tot_take (l:List α) (k:Nat) (h:k < l.length) (c:κ) : R.tot (l.take (k+1)) c = R.tot (l.take k) c+if R.key l[k] = c then R.amt l[k] else 0:=by
 rw [List.take_succ_eq_append_getElem h,Rec.tot_append]; simp [Rec.tot]
theorem Rec.has_take (l:List α) (k:Nat) (h:k < l.length) (c:κ) : R.has (l.take (k+1)) c = (R.has (l.take k) c || decide (R.key l[k] = c)):=by
 rw [List.take_succ_eq_append_getElem h,Rec.has_append]; simp [Rec.has]
theorem Rec.sums_keys (L:R.Law) {l:List α} {x:α} (hx:x ∈ R.sums l) : ∃ y ∈ l,R.key y = R.key x:=by
 have h1:R.has (R.sums l) (R.key x) = true:=List.any_eq_true.2 ⟨x,hx,by simp⟩
 rw [Rec.sums_has L] at h1
 obtain ⟨y,hy,e⟩:=List.any_eq_true.1 h1
 exact ⟨y,hy,by simpa using e⟩
end
end Go.Proofs.YtjncpgbhokjbfaaGreat
namespace Go.Proofs.YtjncpgbhokjbfaaGreat
section
variable {α κ:Type} [DecidableEq κ] {R:Rec α κ}
theorem Rec.put_skip (e:α) : ∀ (xs:List α) (k:Nat),k≤xs.length→(∀ j,(h:j < xs.length)→j < k→R.lt (R.key xs[j]) (R.key e) = true)→R.put xs e = xs.take k++R.put (xs.drop k) e:=by
 intro xs
 induction xs with
 | nil=>intro k hk _; simp
 | cons x r ih =>
  intro k hk h
  cases k with
  | zero=>simp
  | succ k =>
   have h0:=h 0 (by simp) (by omega)
   simp at h0
   rw [Rec.put,if_pos h0,List.take_succ_cons,List.drop_succ_cons,List.cons_append]
   rw [← ih k (by simp at hk; omega) (fun j hj hjk=>by have:=h (j+1) (by simp; omega) (by omega); simpa using this)]
theorem Rec.put_eq {xs:List α} {e:α} {k:Nat} (hk:k < xs.length) (h : ∀ j,(h:j < xs.length)→j < k→R.lt (R.key xs[j]) (R.key e) = true) (h1:R.lt (R.key xs[k]) (R.key e) = false) (h2:R.key xs[k] = R.key e) :
  R.put xs e = xs.take k++[R.set e (R.amt e+R.amt xs[k])]++xs.drop (k+1):=by
 rw [Rec.put_skip e xs k (by omega) h,List.drop_eq_getElem_cons hk,Rec.put,h1,if_neg (by simp),if_pos h2]
 simp
theorem Rec.put_ne {xs:List α} {e:α} {k:Nat} (hk:k < xs.length) (h : ∀ j,(h:j < xs.length)→j < k→R.lt (R.key xs[j]) (R.key e) = true) (h1:R.lt (R.key xs[k]) (R.key e) = false) (h2 : ¬ R.key xs[k] = R.key e) :
  R.put xs e = xs.take k++[e]++xs.drop k:=by
 rw [Rec.put_skip e xs k (by omega) h,List.drop_eq_getElem_cons hk,Rec.put,h1,if_neg (by simp),if_neg h2]
 simp
theorem Rec.put_end {xs:List α} {e:α} (h : ∀ j,(h:j < xs.length)→R.lt (R.key xs[j]) (R.key e) = true) : R.put xs e = xs.take xs.length++[e]++xs.drop xs.length:=by
 rw [Rec.put_skip e xs xs.length (Nat.le_refl _) (fun j hj _=>h j hj)]
 simp [Rec.put]
end
end Go.Proofs.YtjncpgbhokjbfaaGreat
namespace Go.Proofs.YtjncpgbhokjbfaaGreat
open Go.RowKit
structure BookT where
 run:Int
 account:Int
 amount:Int
deriving DecidableEq
def encB (x:BookT) : List Value:=[.int .i64 x.run,.int .i64 x.account,.int .i64 x.amount]
theorem encB_len (x:BookT) : (encB x).length = 3:=rfl
theorem encB_one (x:BookT) : ∀ u ∈ encB x,u.oneCell' = true:=by intro u hu; simp [encB] at hu; rcases hu with rfl | rfl | rfl <;> rfl
theorem infoB : (Tryz.prog.info? 64).map (fun i=>(i.zero,i.size,i.bytes)) = some (some (.agg #[.int .i64 0,.int .i64 0,.int .i64 0]),3,24):=by kernel_rfl
def okB (x:BookT) : Bool:=(decide (0≤x.run) && decide (x.run≤256)) && (decide (100≤x.account) && decide (x.account≤9999)) && maxN x.amount
theorem okB_iff (x:BookT) : okB x = true ↔ (0≤x.run∧x.run≤256)∧(100≤x.account∧x.account≤9999)∧-1000000000000≤x.amount∧x.amount≤1000000000000:=by
 simp [okB,maxN,and_assoc]
abbrev KeyB:=Int × Int × Int
def ltB (a b : KeyB) : Bool:=decide (a.1 < b.1) || (decide (a.1 = b.1) && (decide (a.2.1 < b.2.1) || (decide (a.2.1 = b.2.1) && decide (a.2.2 < b.2.2))))
def RB : Rec BookT KeyB:=⟨fun x=>(x.run,x.account,0),(·.amount),fun x n=>⟨x.run,x.account,n⟩,ltB⟩
theorem RB_law : RB.Law where
 key_set _ _:=rfl
 amt_set _ _:=rfl
 ext x y h1 h2:=by
  obtain ⟨a,b,c⟩:=x
  obtain ⟨a',b',c'⟩:=y
  simp only [RB,Prod.mk.injEq] at h1 h2
  obtain ⟨rfl,rfl,_⟩:=h1
  rw [h2]
 irrefl a:=by simp [RB,ltB]
 trans a b c h1 h2:=by
  simp only [RB,ltB,Bool.or_eq_true,Bool.and_eq_true,decide_eq_true_eq] at *
  omega
 total a b h1 h2:=by
  obtain ⟨a1,a2,a3⟩:=a
  obtain ⟨b1,b2,b3⟩:=b
  simp only [RB,ltB,Bool.or_eq_false_iff,Bool.and_eq_false_iff,decide_eq_false_iff_not] at h1 h2
  have e1:a1 = b1:=by omega
  have e2:a2 = b2:=by omega
  have e3:a3 = b3:=by omega
  rw [e1,e2,e3]
theorem keyB_eq (x y : BookT) : RB.key x = RB.key y ↔ x.run = y.run∧x.account = y.account:=by simp [RB]
theorem ltB_eq (x y : BookT) : RB.lt (RB.key x) (RB.key y) = (decide (x.run < y.run) || (decide (x.run = y.run) && decide (x.account < y.account))):=by
 simp [RB,ltB]
def overB (l:List BookT) : Bool:=l.any fun x=>!maxN x.amount
def mErrB (l:List BookT) : Int:=if 131072 < l.length then 3 else if l.all okB = false then 2 else if overB (RB.sums l) then 4 else 0
def mRB (l:List BookT) : List BookT:=if mErrB l = 0 then (RB.sums l).filter RB.nz else []
theorem mErrB_3 {l:List BookT} (h:131072 < l.length) : mErrB l = 3:=by rw [mErrB,if_pos h]
theorem mErrB_2 {l:List BookT} (h : ¬ 131072 < l.length) (h2:l.all okB = false) : mErrB l = 2:=by rw [mErrB,if_neg h,if_pos h2]
theorem mErrB_4 {l:List BookT} (h : ¬ 131072 < l.length) (h2:l.all okB = true) : mErrB l = if overB (RB.sums l) then 4 else 0:=by rw [mErrB,if_neg h,if_neg (by simp [h2])]
theorem mRB_no {l:List BookT} {n:Int} (h:mErrB l = n) (hn:n ≠ 0) : mRB l = []:=by rw [mRB,if_neg (by rw [h]; exact hn)]
theorem mRB_ok {l:List BookT} (h:mErrB l = 0) : mRB l = (RB.sums l).filter RB.nz:=by rw [mRB,if_pos h]
theorem mErrB_0 {l:List BookT} (h:mErrB l = 0) : l.length≤131072∧l.all okB = true∧overB (RB.sums l) = false:=by
 have h1:¬ 131072 < l.length:=fun hh=>by rw [mErrB_3 hh] at h; cases h
 have h2:l.all okB = true:=by
  cases hh:l.all okB
  ·
   rw [mErrB_2 h1 hh] at h; cases h
  ·
   rfl
 refine ⟨by omega,h2,?_⟩
 rw [mErrB_4 h1 h2] at h
 cases hh:overB (RB.sums l)
 ·
  rfl
 ·
  rw [hh] at h; cases h
theorem mRB_len (l:List BookT) : (mRB l).length≤131072:=by
 by_cases h:mErrB l = 0
 ·
  rw [mRB_ok h]
  exact Nat.le_trans (List.length_filter_le _ _) (Nat.le_trans (Rec.sums_length l) (mErrB_0 h).1)
 ·
  rw [mRB,if_neg h]; simp
theorem mRB_facts (l:List BookT) : RB.Sorted (mRB l)∧(∀ x ∈ mRB l,okB x = true∧x.amount ≠ 0):=by
 by_cases h:mErrB l = 0
 ·
  rw [mRB_ok h]
  obtain ⟨h1,h2,h3⟩:=mErrB_0 h
  refine ⟨(Rec.sums_sorted RB_law l).filter _,fun x hx=>?_⟩
  obtain ⟨hx1,hx2⟩:=List.mem_filter.1 hx
  refine ⟨?_,(Rec.mem_nz x).1 hx2⟩
  obtain ⟨y,hy,hk⟩:=Rec.sums_keys RB_law hx1
  have hy2:=(okB_iff y).1 (List.all_eq_true.1 h2 y hy)
  obtain ⟨k1,k2⟩:=(keyB_eq y x).1 hk
  have h4:maxN x.amount = true:=by
   rw [overB,List.any_eq_false] at h3
   simpa using h3 x hx1
  rw [okB_iff]
  simp [maxN] at h4
  rw [← k1,← k2]
  exact ⟨hy2.1,hy2.2.1,h4⟩
 ·
  rw [mRB,if_neg h]; exact ⟨List.Pairwise.nil,by simp⟩
def runTot : List BookT→Int→Int
 | [],_=>0
 | x :: l,r=>(if x.run = r then x.amount else 0)+runTot l r
def balL (m:List BookT) : Bool:=m.all fun x=>runTot m x.run == 0
def balB (l:List BookT) : Bool:=if mErrB l = 0 then balL (mRB l) else false
theorem runTot_append (l m : List BookT) (r:Int) : runTot (l++m) r = runTot l r+runTot m r:=by
 induction l with
 | nil=>simp [runTot]
 | cons a l ih=>simp [runTot,ih]; omega
theorem runTot_take (l:List BookT) (k:Nat) (h:k < l.length) (r:Int) : runTot (l.take (k+1)) r = runTot (l.take k) r+if l[k].run = r then l[k].amount else 0:=by
 rw [List.take_succ_eq_append_getElem h,runTot_append]; simp [runTot]
theorem runTot_bd (l:List BookT) (r:Int) (h : ∀ x ∈ l,okB x = true) : -(l.length * 1000000000000 : Int)≤runTot l r∧runTot l r≤l.length * 1000000000000:=by
 induction l with
 | nil=>simp [runTot]
 | cons a l ih =>
  have h1:=ih (fun x hx=>h x (by simp [hx]))
  have h2:=((okB_iff a).1 (h a (by simp))).2.2
  simp only [runTot,List.length_cons]
  have e9:((l.length+1:Nat) : Int) * 1000000000000 = (l.length:Int) * 1000000000000+1000000000000:=by omega
  rw [e9]
  split <;> omega
end Go.Proofs.YtjncpgbhokjbfaaGreat
namespace Go.Proofs.YtjncpgbhokjbfaaGreat
open Go.RowKit
def okAt (xs:List WageT) (i:Nat) (x:WageT) : Bool :=
 nameB x.code && (decide (i = 0) || (match xs[i - 1]? with | some p=>Op.bytesLess p.code.toList x.code.toList | none=>true)) && (x.kind == 1 || x.kind == 2) && !(x.kind == 2 && x.attachable) && (decide (1000≤x.account) && decide (x.account≤9999))
def validB (xs:List WageT) : Bool:=decide (xs.length≤64) && decide (∀ i,(h:i < xs.length)→okAt xs i xs[i] = true)
theorem validB_no {xs:List WageT} {i:Nat} (h:i < xs.length) (hn:okAt xs i xs[i] = false) : validB xs = false:=by
 unfold validB
 simp only [Bool.and_eq_false_iff,decide_eq_false_iff_not]
 right
 intro hh
 have:=hh i h
 rw [hn] at this
 cases this
theorem validB_yes {xs:List WageT} (hl:xs.length≤64) (h : ∀ i,(h:i < xs.length)→okAt xs i xs[i] = true) : validB xs = true:=by
 unfold validB
 simp only [Bool.and_eq_true,decide_eq_true_eq]
 exact ⟨hl,h⟩
theorem okAt_eq (xs:List WageT) (i:Nat) (x:WageT) (l:Bool) (hl:i = 0 ∨ (∃ p,xs[i - 1]? = some p∧l = Op.bytesLess p.code.toList x.code.toList)) :
  okAt xs i x = decide (nameB x.code = true∧(i = 0 ∨ l = true)∧(x.kind = 1 ∨ x.kind = 2)∧¬ (x.kind = 2∧x.attachable = true)∧1000≤x.account∧x.account≤9999):=by
 rw [Bool.eq_iff_iff]
 rcases hl with rfl | ⟨p,hp,rfl⟩
 ·
  simp [okAt,and_assoc]
 ·
  simp [okAt,hp,and_assoc]
set_option maxHeartbeats 2000000 in
theorem valid_any (A:Option Addr) (cap:Nat) (xs:List WageT) (w:World) (h:SliceOf encW 6 w w.heap.size A xs) (hz : ∀ x ∈ xs,x.code.size≤maxLen) (hl:xs.length≤9223372036854775807) :
    Calls Tryz.prog 21 #[.slice A xs.length cap] w fun e w'=>e = .returned (.bool (validB xs))∧Below w.heap.size w w':=by
  have HZ:=Lib.hid hz; clear hz
  by_cases hlen:64 < xs.length
  · have HV:Hid (validB xs = false):=by simp [Hid,validB]; intro; omega
    go_enter Tryz.func21,Tryz.ntmps21
    go_wp2
    go_ret
    exact ⟨by rw [HV.out]; rfl,Below.refl _ _⟩
  · have hlen':xs.length≤64:=by omega
    clear hlen hl
    go_enter Tryz.func21,Tryz.ntmps21
    go_wp2
    go_loopw [10] (fun i wr=>∃ k:Nat,k≤xs.length∧i = .int .i64 k∧Hid (∀ j,(hj:j < xs.length)→j < k→okAt xs j xs[j] = true)∧Below w.heap.size w wr) (fun i _=>xs.length - (intOf i).toNat)
    case atStart=>exact ⟨0,by omega,rfl,fun j _ hj=>absurd hj (by omega),Below.refl _ _⟩
    case round =>
      obtain ⟨k,hk,rfl,hall,hbel⟩:=hrel
      by_cases hlt:k < xs.length
      · obtain ⟨b,off,rfl,hb,hc⟩:=(h.below hbel).at_ hlt
        have c0:=hc 0 _ rfl
        have c1:=hc 1 _ rfl
        have c2:=hc 2 _ rfl
        have c3:=hc 3 _ rfl
        have c4:=hc 4 _ rfl
        have c5:=hc 5 _ rfl
        simp only [Nat.add_zero] at c0
        have hzk:=HZ.out _ (List.getElem_mem hlt)
        have hno:∀ r,okAt xs k xs[k] = r→Hid (okAt xs k xs[k] = r):=fun r h=>h
        have hbs:=hbel.size
        have HNO:=Lib.hid (@validB_no xs k hlt)
        clear hc
        have hB:Below w.heap.size w (wr.alloc (.cells (encW xs[k]).toArray 61)):=hbel.alloc hbs _
        rcases Nat.lt_or_ge 0 k with hk0 | hk0
        rotate_left
        · have hO:=okAt_eq xs k xs[k] true (.inl (by omega))
          have hg0:decide ((0:Int) < (k:Int)) = false:=by simp; omega
          have hg1:decide (0 < k) = false:=by simp; omega
          have HO:=Lib.hid hO
          clear hO
          go_wp2_with (go_at_call 38; refine (isName_any _ _ hzk).mono ?_; rintro e w' ⟨rfl,rfl⟩)
          · have hf:(!nameB xs[k].code) = true:=by assumption
            go_ret
            exact ⟨by rw [HNO.out (by simp at hf; simp [okAt,hf])]; rfl,hB⟩
          · have hf:(!nameB xs[k].code) = false:=by assumption
            go_quiet (fail)
            go_wp2
            all_goals first
              | (go_ret
                 refine ⟨?_,below_drewN (hbel.alloc hbs _) _⟩
                 have hq:okAt xs k xs[k] = false:=by
                   go_light
                   rw [HO.out]
                   apply decide_eq_false
                   rintro ⟨h1,h2,h3,h4,h5,h6⟩
                   first | omega | (simp_all; done) | (simp_all; omega)
                 rw [HNO.out hq]; rfl)
              | (go_roundw
                 case rel =>
                   have hok:∀ j,(hj:j < xs.length)→j < k+1→okAt xs j xs[j] = true:=by
                     intro j hj hjk
                     obtain rfl:j = k:=by omega
                     go_light
                     rw [HO.out]
                     apply decide_eq_true
                     refine ⟨by simpa using hf,by omega,?_,?_,?_,?_⟩
                     all_goals first | omega | (simp_all; done) | (simp_all; omega)
                   first | exact ⟨k+1,by omega,by go_num,hok,below_drewN (hbel.alloc hbs _) _⟩ | ((repeat apply Exists.intro); exact ⟨⟨k+1,by omega,by go_num,hok,below_drewN (hbel.alloc hbs _) _⟩,rfl⟩)
                 case measure=>simp [intOf]; omega)
        · obtain ⟨m,rfl⟩ : ∃ m,k = m+1:=⟨k - 1,by omega⟩
          obtain ⟨b',off',hA',hb',hc'⟩:=(h.below hbel).at_ (show m < xs.length by omega)
          injection hA' with hA'
          injection hA' with h1 h2
          subst h1 h2
          have p0:=hc' 0 _ rfl
          simp only [Nat.add_zero] at p0
          have hO:=okAt_eq xs (m+1) xs[m+1] _ (.inr ⟨xs[m],by simp,rfl⟩)
          have HO:=Lib.hid hO
          have hbwr:b < wr.heap.size:=by omega
          clear hc' hO
          go_wp2_with (go_at_call 38; refine (isName_any _ _ hzk).mono ?_; rintro e w' ⟨rfl,rfl⟩)
          · have hf:(!nameB xs[m+1].code) = true:=by assumption
            go_ret
            exact ⟨by rw [HNO.out (by simp at hf; simp [okAt,hf])]; rfl,hB⟩
          · have hf:(!nameB xs[m+1].code) = false:=by assumption
            go_quiet (fail)
            go_wp2
            all_goals first
              | (go_ret
                 refine ⟨?_,below_drewN (hbel.alloc hbs _) _⟩
                 have hq:okAt xs (m+1) xs[m+1] = false:=by
                   go_light
                   rw [HO.out]
                   apply decide_eq_false
                   rintro ⟨h1,h2,h3,h4,h5,h6⟩
                   first | omega | (simp_all; done) | (simp_all; omega)
                 rw [HNO.out hq]; rfl)
              | (go_roundw
                 case rel =>
                   have hok:∀ j,(hj:j < xs.length)→j < m+1+1→okAt xs j xs[j] = true:=by
                     intro j hj hjk
                     rcases Nat.lt_or_ge j (m+1) with h1 | h1
                     · exact hall.out j hj h1
                     · obtain rfl:j = m+1:=by omega
                       go_light
                       rw [HO.out]
                       apply decide_eq_true
                       refine ⟨by simpa using hf,.inr (by simp_all),?_,?_,?_,?_⟩
                       all_goals first | omega | (simp_all; done) | (simp_all; omega)
                   first | exact ⟨m+1+1,by omega,by go_num,hok,below_drewN (hbel.alloc hbs _) _⟩ | ((repeat apply Exists.intro); exact ⟨⟨m+1+1,by omega,by go_num,hok,below_drewN (hbel.alloc hbs _) _⟩,rfl⟩)
                 case measure=>simp [intOf]; omega)
      · go_wp2
        go_ret
        exact ⟨by rw [validB_yes hlen' (fun i hi=>hall.out i hi (by omega))]; rfl,hbel⟩
end Go.Proofs.YtjncpgbhokjbfaaGreat
