/- Joined texts: Elem Put PlainE CmpI Round. Conditions: as stated. -/
import Derived.WalkKit
import Derived.WalkSpells
import Derived.WalkLawsBesides
import Derived.Deep.QuietTactic
import Derived.BigQuiet
import Derived.Lib.Hide
import Derived.Test.YtlhkojcmcmkmaaaGreatRows
import Derived.Test.YtlhkojcmcmkmaaaGreatJData
import Derived.Test.YtlhkojcmcmkmaaaGreatJLeaf
namespace Go.Proofs.YtlhkojcmcmkmaaaGreat
open Go.RowKit
end Go.Proofs.YtlhkojcmcmkmaaaGreat
namespace Go.Proofs.YtlhkojcmcmkmaaaGreat
open Go.RowKit
def lessE (x y : Elem) : Bool:=Op.bytesLess x.code.toList y.code.toList
def put (xs:List Elem) (e:Elem) : List Elem :=
 match xs with
 | []=>[e]
 | x :: r=>if lessE x e then x :: put r e else if x.code.toList == e.code.toList then ⟨e.code,e.amount+x.amount⟩ :: r else e :: x :: r
end Go.Proofs.YtlhkojcmcmkmaaaGreat
namespace Go.Proofs.YtlhkojcmcmkmaaaGreat
open Go.RowKit
def sumsP (l:List Elem) : List Elem:=l.foldl put []
def nz (x:Elem) : Bool:=x.amount != 0
def Bdd (B:Int) (l:List Elem) : Prop:=∀ x ∈ l,-B≤x.amount∧x.amount≤B
theorem Bdd.put {B C : Int} {l:List Elem} {e:Elem} (h:Bdd B l) (hB:0≤B) (hC:0≤C) (h1 : -C≤e.amount) (h2:e.amount≤C) : Bdd (B+C) (put l e):=by
 induction l with
 | nil=>intro x hx; simp [Go.Proofs.YtlhkojcmcmkmaaaGreat.put] at hx; subst hx; omega
 | cons a l ih =>
  have ha:=h a (by simp)
  have hl:Bdd B l:=fun x hx=>h x (by simp [hx])
  intro x hx
  rw [Go.Proofs.YtlhkojcmcmkmaaaGreat.put] at hx
  split at hx
  ·
   rcases List.mem_cons.1 hx with rfl | hx
   ·
    omega
   ·
    exact ih hl x hx
  ·
   split at hx
   ·
    rcases List.mem_cons.1 hx with rfl | hx
    ·
     show -(B+C)≤e.amount+a.amount∧e.amount+a.amount≤B+C
     omega
    ·
     have:=hl x hx; omega
   ·
    rcases List.mem_cons.1 hx with rfl | hx
    ·
     omega
    ·
     have:=h x hx; omega
theorem put_length (l:List Elem) (e:Elem) : (put l e).length≤l.length+1:=by
 induction l with
 | nil=>simp [put]
 | cons a l ih =>
  rw [put]
  split
  ·
   simp; omega
  ·
   split <;> simp
theorem foldl_put_length (l:List Elem) : ∀ acc : List Elem,(l.foldl put acc).length≤acc.length+l.length:=by
 induction l with
 | nil=>intro acc; simp
 | cons a l ih=>intro acc; have h1:=ih (put acc a); have h2:=put_length acc a; simp; omega
theorem sumsP_length (l:List Elem) : (sumsP l).length≤l.length:=by
 have:=foldl_put_length l []
 simpa [sumsP] using this
theorem put_codes (l:List Elem) (e:Elem) : ∀ x ∈ put l e,x.code = e.code ∨ ∃ y ∈ l,y.code = x.code:=by
 induction l with
 | nil=>intro x hx; simp [put] at hx; subst hx; exact .inl rfl
 | cons a l ih =>
  intro x hx
  rw [put] at hx
  split at hx
  ·
   rcases List.mem_cons.1 hx with rfl | hx
   ·
    exact .inr ⟨_,by simp,rfl⟩
   ·
    rcases ih x hx with h | ⟨y,hy,h⟩
    ·
     exact .inl h
    ·
     exact .inr ⟨y,by simp [hy],h⟩
  ·
   split at hx
   ·
    rcases List.mem_cons.1 hx with rfl | hx
    ·
     exact .inl rfl
    ·
     exact .inr ⟨x,by simp [hx],rfl⟩
   ·
    rcases List.mem_cons.1 hx with rfl | hx
    ·
     exact .inl rfl
    ·
     exact .inr ⟨x,hx,rfl⟩
theorem foldl_codes (l:List Elem) : ∀ acc,∀ x ∈ l.foldl put acc,(∃ y ∈ l,y.code = x.code) ∨ ∃ y ∈ acc,y.code = x.code:=by
 induction l with
 | nil=>intro acc x hx; exact .inr ⟨x,hx,rfl⟩
 | cons a l ih =>
  intro acc x hx
  rcases ih (put acc a) x hx with ⟨y,hy,h⟩ | ⟨y,hy,h⟩
  ·
   exact .inl ⟨y,by simp [hy],h⟩
  ·
   rcases put_codes acc a y hy with h1 | ⟨z,hz,h1⟩
   ·
    exact .inl ⟨a,by simp,by rw [← h,h1]⟩
   ·
    exact .inr ⟨z,hz,by rw [h1,h]⟩
theorem sumsP_codes {l:List Elem} {x:Elem} (hx:x ∈ sumsP l) : ∃ y ∈ l,y.code = x.code:=by
 rcases foldl_codes l [] x hx with h | ⟨y,hy,_⟩
 ·
  exact h
 ·
  simp at hy
theorem less_eq : ∀ (x y : List UInt8),Op.bytesLess x y = decide (x < y)
 | [],[]=>by simp [Op.bytesLess]
 | _ :: _,[]=>by simp [Op.bytesLess]
 | [],_ :: _=>by simp [Op.bytesLess]
 | a :: x,b :: y=>by
  rw [Op.bytesLess,less_eq x y]
  simp only [List.cons_lt_cons_iff]
  by_cases h1:a < b <;> by_cases h2:a = b <;> by_cases h3:x < y <;> simp [h1,h2,h3]
def key (c:ByteArray) : Lit:=.string c.data.toList
theorem key_inj {a b : ByteArray} (h:key a = key b) : a = b:=by
 obtain ⟨⟨l⟩⟩:=a
 obtain ⟨⟨m⟩⟩:=b
 simp [key] at h
 rw [h]
theorem strict_of {zs:List Elem} (h1:zs.Pairwise (fun a b=>lessE b a = false)) (h2:zs.Pairwise (fun a b=>a.code ≠ b.code)) : zs.Pairwise (fun a b=>lessE a b = true):=by
 refine (h1.and h2).imp ?_
 rintro a b ⟨hab,hne⟩
 rw [lessE,less_eq] at hab ⊢
 simp only [decide_eq_false_iff_not,List.not_lt,decide_eq_true_eq] at hab ⊢
 have hne':a.code.toList ≠ b.code.toList:=by
  intro e
  apply hne
  rw [ByteArray.toList_eq,ByteArray.toList_eq] at e
  exact key_inj (by simp [key,e])
 exact Decidable.byContradiction fun h=>hne' (List.le_antisymm hab (List.not_lt.1 h))
def totE : List Elem→List UInt8→Int
 | [],_=>0
 | x :: l,c=>(if x.code.data.toList = c then x.amount else 0)+totE l c
def keyE (l:List Elem) (c:List UInt8) : Bool:=l.any fun x=>decide (x.code.data.toList = c)
theorem code_ext {a b : ByteArray} (h:a.data.toList = b.data.toList) : a = b:=key_inj (by simp [key,h])
theorem lessE_iff (x y : Elem) : lessE x y = true ↔ x.code.data.toList < y.code.data.toList:=by
 rw [lessE,less_eq,ByteArray.toList_eq,ByteArray.toList_eq]; simp
theorem lessE_trans {x y z : Elem} (h1:lessE x y = true) (h2:lessE y z = true) : lessE x z = true:=by
 rw [lessE_iff] at *; exact List.lt_trans h1 h2
theorem lessE_irrefl (x:Elem) : lessE x x = false:=by
 cases h:lessE x x
 ·
  rfl
 ·
  rw [lessE_iff] at h; exact absurd h (List.lt_irrefl _)
def SortedE (l:List Elem) : Prop:=l.Pairwise (fun a b=>lessE a b = true)
theorem totE_append (l m : List Elem) (c:List UInt8) : totE (l++m) c = totE l c+totE m c:=by
 induction l with
 | nil=>simp [totE]
 | cons a l ih=>simp [totE,ih]; omega
theorem keyE_append (l m : List Elem) (c:List UInt8) : keyE (l++m) c = (keyE l c || keyE m c):=by simp [keyE]
theorem totE_put (l:List Elem) (e:Elem) (c:List UInt8) : totE (put l e) c = totE l c+(if e.code.data.toList = c then e.amount else 0):=by
 induction l with
 | nil=>simp [put,totE]
 | cons a l ih =>
  rw [put]
  split
  ·
   simp only [totE,ih]; omega
  ·
   split
   ·
    rename_i h
    have h':a.code.data.toList = e.code.data.toList:=by
     rw [ByteArray.toList_eq,ByteArray.toList_eq] at h; simpa using h
    simp only [totE,h']
    split <;> omega
   ·
    simp only [totE]; omega
theorem keyE_put (l:List Elem) (e:Elem) (c:List UInt8) : keyE (put l e) c = (keyE l c || decide (e.code.data.toList = c)):=by
 induction l with
 | nil=>simp [put,keyE]
 | cons a l ih =>
  rw [put]
  unfold keyE at ih ⊢
  split
  ·
   simp only [List.any_cons,ih,Bool.or_assoc]
  ·
   split
   ·
    rename_i h
    have h':a.code.data.toList = e.code.data.toList:=by
     rw [ByteArray.toList_eq,ByteArray.toList_eq] at h; simpa using h
    simp only [List.any_cons,h']
    cases decide (e.code.data.toList = c) <;> simp
   ·
    simp only [List.any_cons]
    cases decide (e.code.data.toList = c) <;> simp
theorem sorted_put {l:List Elem} (h:SortedE l) (e:Elem) : SortedE (put l e):=by
 induction l with
 | nil=>simp [put,SortedE]
 | cons a l ih =>
  obtain ⟨h1,h2⟩:=List.pairwise_cons.1 h
  rw [put]
  split
  ·
   rename_i hae
   refine List.pairwise_cons.2 ⟨fun x hx=>?_,ih h2⟩
   rcases put_codes l e x hx with hc | ⟨y,hy,hc⟩
   ·
    rw [lessE_iff,hc,← lessE_iff]; exact hae
   ·
    rw [lessE_iff,← hc,← lessE_iff]; exact h1 y hy
  ·
   rename_i hae
   split
   ·
    rename_i hc
    have hc':e.code = a.code:=by
     apply code_ext
     rw [ByteArray.toList_eq,ByteArray.toList_eq] at hc
     exact (by simpa using hc:a.code.data.toList = e.code.data.toList).symm
    refine List.pairwise_cons.2 ⟨fun x hx=>?_,h2⟩
    rw [lessE_iff]
    show e.code.data.toList < _
    rw [hc',← lessE_iff]
    exact h1 x hx
   ·
    rename_i hc
    have hea:lessE e a = true:=by
     rw [lessE_iff] at hae ⊢
     rw [ByteArray.toList_eq,ByteArray.toList_eq] at hc
     have hne:¬ a.code.data.toList = e.code.data.toList:=by simpa using hc
     exact Decidable.byContradiction fun h=>hne (List.le_antisymm (List.not_lt.1 h) (List.not_lt.1 hae))
    refine List.pairwise_cons.2 ⟨fun x hx=>?_,h⟩
    rcases List.mem_cons.1 hx with rfl | hx
    ·
     exact hea
    ·
     exact lessE_trans hea (h1 x hx)
theorem foldl_facts (l:List Elem) : ∀ acc,SortedE acc→SortedE (l.foldl put acc)∧(∀ c,totE (l.foldl put acc) c = totE acc c+totE l c)∧∀ c,keyE (l.foldl put acc) c = (keyE acc c || keyE l c):=by
 induction l with
 | nil=>intro acc h; exact ⟨h,fun c=>by simp [totE],fun c=>by simp [keyE]⟩
 | cons a l ih =>
  intro acc h
  obtain ⟨h1,h2,h3⟩:=ih (put acc a) (sorted_put h a)
  refine ⟨h1,fun c=>?_,fun c=>?_⟩
  ·
   rw [List.foldl_cons,h2,totE_put]; simp only [totE]; omega
  ·
   rw [List.foldl_cons,h3,keyE_put]
   simp only [keyE,List.any_cons,Bool.or_assoc]
theorem sumsP_sorted (l:List Elem) : SortedE (sumsP l):=(foldl_facts l [] List.Pairwise.nil).1
theorem sumsP_tot (l:List Elem) (c:List UInt8) : totE (sumsP l) c = totE l c:=by
 have:=(foldl_facts l [] List.Pairwise.nil).2.1 c
 simpa [totE,sumsP] using this
theorem sumsP_key (l:List Elem) (c:List UInt8) : keyE (sumsP l) c = keyE l c:=by
 have:=(foldl_facts l [] List.Pairwise.nil).2.2 c
 simpa [keyE,sumsP] using this
theorem tot_out {l:List Elem} {c:List UInt8} (h : ∀ x ∈ l,x.code.data.toList ≠ c) : totE l c = 0:=by
 induction l with
 | nil=>rfl
 | cons a l ih=>simp only [totE,if_neg (h a (by simp))]; rw [ih (fun x hx=>h x (by simp [hx]))]; rfl
theorem mem_sorted {l:List Elem} (h:SortedE l) (x:Elem) : x ∈ l ↔ (keyE l x.code.data.toList = true∧x.amount = totE l x.code.data.toList):=by
 induction l with
 | nil=>simp [keyE]
 | cons a l ih =>
  obtain ⟨h1,h2⟩:=List.pairwise_cons.1 h
  have ih:=ih h2
  have hout:∀ y ∈ l,y.code.data.toList ≠ a.code.data.toList:=by
   intro y hy e
   have:=h1 y hy
   rw [lessE_iff,e] at this
   exact List.lt_irrefl _ this
  by_cases hc:a.code.data.toList = x.code.data.toList
  ·
   have ht:totE l x.code.data.toList = 0:=by rw [← hc]; exact tot_out hout
   simp only [keyE,List.any_cons,totE,hc,decide_true,Bool.true_or,if_true,ht,true_and,List.mem_cons]
   constructor
   ·
    rintro (rfl | hx)
    ·
     omega
    ·
     exact absurd hc.symm (hout x hx)
   ·
    intro hx
    left
    obtain ⟨c1,n1⟩:=x
    obtain ⟨c2,n2⟩:=a
    have:=code_ext hc
    simp only at this hx
    subst this
    congr; omega
  ·
   have hne:x ≠ a:=by rintro rfl; exact hc rfl
   simp only [keyE,List.any_cons,totE,hc,decide_false,Bool.false_or,if_false,Int.zero_add,List.mem_cons,hne,false_or]
   exact ih
theorem sorted_ext : ∀ {l m : List Elem},SortedE l→SortedE m→(∀ x,x ∈ l ↔ x ∈ m)→l = m
 | [],[],_,_,_=>rfl
 | [],b :: s,_,_,h=>by have:=(h b).2 (by simp); simp at this
 | a :: r,[],_,_,h=>by have:=(h a).1 (by simp); simp at this
 | a :: r,b :: s,h1,h2,h=>by
  obtain ⟨a1,a2⟩:=List.pairwise_cons.1 h1
  obtain ⟨b1,b2⟩:=List.pairwise_cons.1 h2
  have irr:∀ x:Elem,¬ lessE x x = true:=fun x hx=>by rw [lessE_irrefl] at hx; cases hx
  have hab:a = b:=by
   rcases List.mem_cons.1 ((h a).1 (by simp)) with e | ha
   ·
    exact e
   ·
    rcases List.mem_cons.1 ((h b).2 (by simp)) with e | hb
    ·
     exact e.symm
    ·
     exact absurd (lessE_trans (a1 b hb) (b1 a ha)) (irr _)
  subst hab
  rw [sorted_ext a2 b2 (fun p=>⟨fun hp=>by
   rcases List.mem_cons.1 ((h p).1 (by simp [hp])) with e | hp'
   ·
    subst e; exact absurd (a1 _ hp) (irr _)
   ·
    exact hp',fun hp=>by
   rcases List.mem_cons.1 ((h p).2 (by simp [hp])) with e | hp'
   ·
    subst e; exact absurd (b1 _ hp) (irr _)
   ·
    exact hp'⟩)]
theorem merged_eq {l ys : List Elem} (h:SortedE ys) (hm : ∀ x : Elem,x ∈ ys ↔ (keyE l x.code.data.toList = true∧x.amount = totE l x.code.data.toList∧x.amount ≠ 0)) : ys = (sumsP l).filter nz:=by
 refine sorted_ext h ((sumsP_sorted l).filter _) fun x=>?_
 rw [hm,List.mem_filter,mem_sorted (sumsP_sorted l),sumsP_key,sumsP_tot]
 simp [nz,and_assoc]
end Go.Proofs.YtlhkojcmcmkmaaaGreat
namespace Go.Proofs.YtlhkojcmcmkmaaaGreat
open Go.RowKit
def cmpI (a b : Int) : Int:=if a < b then -1 else if b < a then 1 else 0
def maxN (n:Int) : Bool:=decide (-1000000000000≤n∧n≤1000000000000)
set_option maxHeartbeats 400000 in
theorem isNaNI_any (a:Int) (w:World) : Calls Tryz.prog 125 #[.int .i64 a] w fun e w'=>e = .returned (.bool false)∧w = w':=by
 go_enter Tryz.func125,Tryz.ntmps125
 go_wp2
 go_ret
 exact ⟨by simp,rfl⟩
set_option maxHeartbeats 400000 in
theorem compareI_any (a b : Int) (w:World) : Calls Tryz.prog 84 #[.int .i64 a,.int .i64 b] w fun e w'=>e = .returned (.int .i64 (cmpI a b))∧w = w':=by
 go_enter Tryz.func84,Tryz.ntmps84
 go_wp2_with (go_at_call 125; refine (isNaNI_any _ _).mono ?_; rintro e w' ⟨rfl,rfl⟩)
 all_goals go_ret
 all_goals refine ⟨?_,rfl⟩
 all_goals (simp [cmpI, *]; try omega)
def orI (a b : Int) : Int:=if a ≠ 0 then a else b
set_option maxHeartbeats 1000000 in
theorem or_any (a b : Int) (c g off : Nat) (w:World) (h1:w.cell? ⟨g,off,none⟩ = some (.int .i64 a)) (h2:w.cell? ⟨g,off+1,none⟩ = some (.int .i64 b)) :
  Calls Tryz.prog 83 #[.slice (some ⟨g,off,none⟩) 2 c] w fun e w'=>e = .returned (.int .i64 (orI a b))∧w = w':=by
 by_cases ha:a = 0
 ·
  have HO:Hid (orI a b = b):=by simp [Hid,orI,ha]
  have ha':(a != 0) = false:=by simp [ha]
  clear ha
  by_cases hb:b = 0
  ·
   have HB:=Lib.hid hb
   have hb':(b != 0) = false:=by simp [hb]
   clear hb
   go_enter Tryz.func83,Tryz.ntmps83
   go_wp2
   refine wp_loop_rounds 3 ?_
   rw [rounds_succ]
   go_wp2
   rw [rounds_succ]
   go_wp2
   rw [rounds_succ]
   go_wp2
   go_ret
   exact ⟨by rw [HO.out,HB.out]; rfl,rfl⟩
  ·
   have hb':(b != 0) = true:=by simp [hb]
   clear hb
   go_enter Tryz.func83,Tryz.ntmps83
   go_wp2
   refine wp_loop_rounds 2 ?_
   rw [rounds_succ]
   go_wp2
   rw [rounds_succ]
   go_wp2
   go_ret
   exact ⟨by rw [HO.out]; rfl,rfl⟩
 ·
  have HO:Hid (orI a b = a):=by simp [Hid,orI,ha]
  have ha':(a != 0) = true:=by simp [ha]
  clear ha
  go_enter Tryz.func83,Tryz.ntmps83
  go_wp2
  refine wp_loop_rounds 1 ?_
  rw [rounds_succ]
  go_wp2
  go_ret
  exact ⟨by rw [HO.out]; rfl,rfl⟩
end Go.Proofs.YtlhkojcmcmkmaaaGreat
namespace Go.Proofs.YtlhkojcmcmkmaaaGreat
open Go.RowKit
def upB (low half : Int) (pos:Bool) (mode:Int) : Bool :=
 if mode = 0 then !pos else if mode = 1 then pos else if mode = 2 then false else if mode = 3 then true else if half ≠ 0 then decide (0 < half) else if mode = 4 then pos else if mode = 5 then !pos else low.tmod 2 != 0
def rnd (num den mode : Int) : Int:=if num % den = 0 then num / den else if upB (num / den) (cmpI (num % den) (den - num % den)) (decide (0 < num)) mode then num / den+1 else num / den
def modeB (m:Int) : Bool:=decide (0≤m∧m≤6)
def partOk (a num den unit mode : Int) : Bool:=decide (-1000000000000≤a∧a≤1000000000000∧0≤num∧num≤1000000∧1≤den∧den≤1000000∧1≤unit∧unit≤1000000) && modeB mode
def partX (a num den unit mode : Int) : Int:=rnd (a * num) (den * unit) mode * unit
def partE (a num den unit mode : Int) : Int:=if partOk a num den unit mode = false then 2 else if maxN (partX a num den unit mode) = false then 4 else 0
def partN (a num den unit mode : Int) : Int:=if partE a num den unit mode = 0 then partX a num den unit mode else 0
theorem tdiv_pos (v n : Int) (hn:0 < n) (h:0≤v.tmod n) : v.tdiv n = v / n∧v.tmod n = v % n:=by
 have h1:=Int.tmod_add_mul_tdiv v n
 have h2:=Int.emod_add_mul_ediv v n
 have h3:=Int.emod_nonneg v (show n ≠ 0 by omega)
 have h4:=Int.emod_lt_of_pos v hn
 have h5:=Int.tmod_lt_of_pos v hn
 have h6:n * (v.tdiv n - v / n) = v % n - v.tmod n:=by
  rw [Int.mul_sub]; omega
 have h7:v.tdiv n - v / n = 0:=by
  rcases Int.lt_trichotomy (v.tdiv n - v / n) 0 with h | h | h
  ·
   have:n * (v.tdiv n - v / n)≤n * (-1):=Int.mul_le_mul_of_nonneg_left (by omega) (by omega)
   omega
  ·
   exact h
  ·
   have:n * 1≤n * (v.tdiv n - v / n):=Int.mul_le_mul_of_nonneg_left (by omega) (by omega)
   omega
 rw [h7] at h6; omega
theorem tdiv_neg (v n : Int) (hn:0 < n) (h:v.tmod n < 0) : v.tdiv n - 1 = v / n∧v.tmod n+n = v % n:=by
 have h1:=Int.tmod_add_mul_tdiv v n
 have h2:=Int.emod_add_mul_ediv v n
 have h3:=Int.emod_nonneg v (show n ≠ 0 by omega)
 have h4:=Int.emod_lt_of_pos v hn
 have h5 : -n < v.tmod n:=by
  have:=Int.lt_tmod_of_pos v hn
  omega
 have h6:n * (v.tdiv n - v / n - 1) = v % n - (v.tmod n+n):=by
  rw [Int.mul_sub,Int.mul_sub]; omega
 have h7:v.tdiv n - v / n - 1 = 0:=by
  rcases Int.lt_trichotomy (v.tdiv n - v / n - 1) 0 with h | h | h
  ·
   have:n * (v.tdiv n - v / n - 1)≤n * (-1):=Int.mul_le_mul_of_nonneg_left (by omega) (by omega)
   omega
  ·
   exact h
  ·
   have:n * 1≤n * (v.tdiv n - v / n - 1):=Int.mul_le_mul_of_nonneg_left (by omega) (by omega)
   omega
 rw [h7] at h6; omega
theorem ediv_bd (v n : Int) (hn:0 < n) (B:Int) (h1 : -B≤v) (h2:v≤B) (hB:0≤B) : -B≤v / n∧v / n≤B:=by
 constructor
 ·
  rw [Int.le_ediv_iff_mul_le hn]
  have : -B * n≤-B * 1:=Int.mul_le_mul_of_nonpos_left (by omega) (by omega)
  omega
 ·
  apply Int.ediv_le_of_le_mul hn
  have:B * 1≤B * n:=Int.mul_le_mul_of_nonneg_left (by omega) (by omega)
  omega
set_option maxHeartbeats 1000000 in
theorem upward_any (low half : Int) (pos:Bool) (mode:Int) (w:World) :
  Calls Tryz.prog 174 #[.int .i64 low,.int .i64 half,.bool pos,.int .i64 mode] w fun e w'=>e = .returned (.bool (upB low half pos mode))∧w = w':=by
 go_enter Tryz.func174,Tryz.ntmps174
 go_wp2
 all_goals go_ret
 all_goals refine ⟨?_,rfl⟩
 all_goals (simp_all [upB])
set_option maxHeartbeats 1000000 in
theorem isMode_any (m:Int) (w:World) : Calls Tryz.prog 115 #[.int .i64 m] w fun e w'=>e = .returned (.bool (modeB m))∧w = w':=by
 by_cases h1:0≤m <;> by_cases h2:m≤6
 all_goals
  have hb:modeB m = (decide (0≤m) && decide (m≤6)):=by simp [modeB]
  have HB:=Lib.hid hb; clear hb
  go_enter Tryz.func115,Tryz.ntmps115
  go_wp2
  go_ret
  exact ⟨by rw [HB.out]; simp [h1,h2],rfl⟩
set_option maxHeartbeats 2000000 in
theorem quotient_any (num den mode : Int) (w:World) (h1 : -1000000000000000000≤num) (h2:num≤1000000000000000000) (h3:0 < den) (h4:den≤1000000000000) :
  Calls Tryz.prog 116 #[.int .i64 num,.int .i64 den,.int .i64 mode] w fun e w'=>e = .returned (.int .i64 (rnd num den mode))∧∃ q,w' = w.drewN q:=by
 have hq:=ediv_bd num den h3 1000000000000000000 h1 h2 (by omega)
 obtain ⟨hq1,hq2⟩:=hq
 have hr1:=Int.emod_nonneg num (show den ≠ 0 by omega)
 have hr2:=Int.emod_lt_of_pos num h3
 have hd0:(den == 0) = false:=by simp; omega
 by_cases hn:num.tmod den < 0
 ·
  obtain ⟨e1,e2⟩:=tdiv_neg num den h3 hn
  have hR:rnd num den mode = if num % den = 0 then num / den else if upB (num / den) (cmpI (num % den) (den - num % den)) (decide (0 < num)) mode then num / den+1 else num / den:=rfl
  rw [← e1,← e2] at hR
  have hL1 : -1000000000000000000≤num.tdiv den:=by omega
  have hL2:num.tdiv den≤1000000000000000001:=by omega
  have hM1:0 < num.tmod den+den:=by
   have:=Int.lt_tmod_of_pos num h3
   omega
  have hM2:num.tmod den < den:=by omega
  have hM0 : -1000000000000 < num.tmod den:=by omega
  have hz:((num.tmod den+den) != 0) = true:=by simp; omega
  rw [if_neg (by omega)] at hR
  have HR:=Lib.hid hR
  clear hR e1 e2 hq1 hq2 hr1 hr2
  cases hu:upB (num.tdiv den - 1) (cmpI (num.tmod den+den) (den - (num.tmod den+den))) (decide (0 < num)) mode
  all_goals
   have HU:=Lib.hid hu
   clear hu
   go_enter Tryz.func116,Tryz.ntmps116
   go_wp2
   go_quiet (fail)
   go_wp2_with fail
   refine (compareI_any _ _ _).mono ?_
   rintro e w1 ⟨rfl,rfl⟩
   go_wp2_with fail
   refine (upward_any _ _ _ _ _).mono ?_
   rintro e w1 ⟨rfl,rfl⟩
   rw [HU.out]
   go_wp2
   go_ret
   exact ⟨by rw [HR.out,HU.out]; first | rfl | simp,_,rfl⟩
 ·
  have hn':0≤num.tmod den:=by omega
  obtain ⟨e1,e2⟩:=tdiv_pos num den h3 hn'
  have hR:rnd num den mode = if num % den = 0 then num / den else if upB (num / den) (cmpI (num % den) (den - num % den)) (decide (0 < num)) mode then num / den+1 else num / den:=rfl
  rw [← e1,← e2] at hR
  have hL1 : -1000000000000000000≤num.tdiv den:=by omega
  have hL2:num.tdiv den≤1000000000000000000:=by omega
  have hM2:num.tmod den < den:=by omega
  have hM0:num.tmod den < 1000000000000:=by omega
  by_cases h0:num.tmod den = 0
  ·
   rw [if_pos h0] at hR
   have HR:=Lib.hid hR
   have hz:(num.tmod den != 0) = false:=by simp [h0]
   clear hR e1 e2 hq1 hq2 hr1 hr2 h0
   go_enter Tryz.func116,Tryz.ntmps116
   go_wp2
   go_quiet (fail)
   go_wp2
   go_ret
   exact ⟨by rw [HR.out]; first | rfl | simp,_,rfl⟩
  ·
   rw [if_neg h0] at hR
   have HR:=Lib.hid hR
   have hz:(num.tmod den != 0) = true:=by simp [h0]
   clear hR e1 e2 hq1 hq2 hr1 hr2 h0
   cases hu:upB (num.tdiv den) (cmpI (num.tmod den) (den - num.tmod den)) (decide (0 < num)) mode
   all_goals
    have HU:=Lib.hid hu
    clear hu
    go_enter Tryz.func116,Tryz.ntmps116
    go_wp2
    go_quiet (fail)
    go_wp2_with fail
    refine (compareI_any _ _ _).mono ?_
    rintro e w1 ⟨rfl,rfl⟩
    go_wp2_with fail
    refine (upward_any _ _ _ _ _).mono ?_
    rintro e w1 ⟨rfl,rfl⟩
    rw [HU.out]
    go_wp2
    go_ret
    exact ⟨by rw [HR.out,HU.out]; first | rfl | simp,_,rfl⟩
end Go.Proofs.YtlhkojcmcmkmaaaGreat
