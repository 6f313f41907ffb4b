/- Joined texts: Ded GenP GenD GenL. Conditions: as stated. -/
import Derived.Test.YtjncpgbhokjbfaaGreatJ01
import Derived.Test.YtjncpgbhokjbfaaGreatJ03
import Derived.Test.YtjncpgbhokjbfaaGreatJ04
import Derived.Test.YtjncpgbhokjbfaaGreatJ05
namespace Go.Proofs.YtjncpgbhokjbfaaGreat
open Go.RowKit
structure DedT where
 code:ByteArray
 rank:Int
 before:Bool
 amount:Int
 rate:Int
 cap:Int
deriving DecidableEq
def encD (x:DedT) : List Value:=[.string x.code,.int .i64 x.rank,.bool x.before,.int .i64 x.amount,.int .i64 x.rate,.int .i64 x.cap]
theorem encD_len (x:DedT) : (encD x).length = 6:=rfl
theorem encD_one (x:DedT) : ∀ u ∈ encD x,u.oneCell' = true:=by intro u hu; simp [encD] at hu; rcases hu with rfl | rfl | rfl | rfl | rfl | rfl <;> rfl
theorem infoD : (Tryz.prog.info? 162).map (fun i=>(i.zero,i.size,i.bytes)) = some (some (.agg #[.string ⟨#[]⟩,.int .i64 0,.bool false,.int .i64 0,.int .i64 0,.int .i64 0]),6,56):=by kernel_rfl
def inB (n m : Int) : Bool:=decide (0≤n∧n≤m)
theorem inB_iff {n m : Int} : inB n m = true ↔ 0≤n∧n≤m:=by simp [inB]
theorem inB_no {n m : Int} : inB n m = false ↔ (n < 0 ∨ m < n):=by simp [inB]; omega
theorem inB_lo {n m : Int} (h:inB n m = true) : 0≤n:=(inB_iff.1 h).1
theorem inB_hi {n m : Int} (h:inB n m = true) : n≤m:=(inB_iff.1 h).2
def ascAt {α:Type} (code:α→ByteArray) (xs:List α) (i:Nat) (x:α) : Bool:=decide (i = 0) || (match xs[i - 1]? with | some p=>Op.bytesLess (code p).toList (code x).toList | none=>true)
theorem ascAt_zero {α:Type} (code:α→ByteArray) (xs:List α) (x:α) : ascAt code xs 0 x = true:=by simp [ascAt]
theorem ascAt_succ {α:Type} (code:α→ByteArray) (xs:List α) (m:Nat) (x:α) (h:m < xs.length) : ascAt code xs (m+1) x = Op.bytesLess (code xs[m]).toList (code x).toList:=by
 simp [ascAt,List.getElem?_eq_getElem h]
def okD (xs:List DedT) (i:Nat) (x:DedT) : Bool:=nameB x.code && ascAt DedT.code xs i x && inB x.rank 99 && inB x.amount 1000000000 && inB x.cap 1000000000 && inB x.rate 1000000
def okR (xs:List Elem) (i:Nat) (x:Elem) : Bool:=nameB x.code && ascAt Elem.code xs i x && inB x.amount 1000000000000
def allOk {α:Type} (ok:List α→Nat→α→Bool) (n:Nat) (xs:List α) : Bool:=decide (xs.length≤n) && decide (∀ i,(h:i < xs.length)→ok xs i xs[i] = true)
def validD (xs:List DedT) : Bool:=allOk okD 16 xs
def recB (xs:List Elem) : Bool:=allOk okR 128 xs
theorem allOk_no {α:Type} {ok:List α→Nat→α→Bool} {n:Nat} {xs:List α} {i:Nat} (h:i < xs.length) (hn:ok xs i xs[i] = false) : allOk ok n xs = false:=by
 unfold allOk
 simp only [Bool.and_eq_false_iff,decide_eq_false_iff_not]
 right
 intro hh
 have:=hh i h
 rw [hn] at this
 cases this
theorem allOk_yes {α:Type} {ok:List α→Nat→α→Bool} {n:Nat} {xs:List α} (hl:xs.length≤n) (h : ∀ i,(h:i < xs.length)→ok xs i xs[i] = true) : allOk ok n xs = true:=by
 unfold allOk
 simp only [Bool.and_eq_true,decide_eq_true_eq]
 exact ⟨hl,h⟩
theorem allOk_long {α:Type} {ok:List α→Nat→α→Bool} {n:Nat} {xs:List α} (hl:n < xs.length) : allOk ok n xs = false:=by
 unfold allOk
 simp only [Bool.and_eq_false_iff,decide_eq_false_iff_not]
 exact .inl (by omega)
theorem allOk_iff {α:Type} {ok:List α→Nat→α→Bool} {n:Nat} {xs:List α} : allOk ok n xs = true ↔ xs.length≤n∧∀ i,(h:i < xs.length)→ok xs i xs[i] = true:=by
 unfold allOk
 simp only [Bool.and_eq_true,decide_eq_true_eq]
structure DedOk (d:DedT) : Prop where
 name:nameB d.code = true
 r0:0≤d.rank
 r1:d.rank≤99
 a0:0≤d.amount
 a1:d.amount≤1000000000
 c0:0≤d.cap
 c1:d.cap≤1000000000
 t0:0≤d.rate
 t1:d.rate≤1000000
theorem okD_ok {xs:List DedT} {i:Nat} {x:DedT} (h:okD xs i x = true) : DedOk x:=by
 simp only [okD,Bool.and_eq_true,inB_iff] at h
 obtain ⟨⟨⟨⟨⟨h1,_⟩,h3,h3'⟩,h4,h4'⟩,h5,h5'⟩,h6,h6'⟩:=h
 exact ⟨h1,h3,h3',h4,h4',h5,h5',h6,h6'⟩
theorem ok_okD {xs:List DedT} {i:Nat} {x:DedT} (h:DedOk x) (ha:ascAt DedT.code xs i x = true) : okD xs i x = true:=by
 simp only [okD,Bool.and_eq_true,inB_iff]
 exact ⟨⟨⟨⟨⟨h.name,ha⟩,h.r0,h.r1⟩,h.a0,h.a1⟩,h.c0,h.c1⟩,h.t0,h.t1⟩
theorem validD_one {d:DedT} : validD [d] = true ↔ DedOk d:=by
 rw [validD,allOk_iff]
 constructor
 ·
  rintro ⟨_,h⟩
  exact okD_ok (h 0 (by simp))
 ·
  intro h
  refine ⟨by simp,fun i hi=>?_⟩
  obtain rfl:i = 0:=by simp at hi; omega
  exact ok_okD h (ascAt_zero ..)
theorem asc_pairwise {α:Type} (code:α→ByteArray) : ∀ (xs:List α),(∀ i,(h:i < xs.length)→ascAt code xs i xs[i] = true)→xs.Pairwise (fun a b=>Op.bytesLess (code a).toList (code b).toList = true):=by
 intro xs h
 rw [List.pairwise_iff_getElem]
 have adj:∀ m,(h1:m+1 < xs.length)→(code xs[m]).toList < (code xs[m+1]).toList:=by
  intro m h1
  have h2:=h (m+1) h1
  rw [ascAt_succ _ _ _ _ (by omega),less_eq] at h2
  simpa using h2
 have far : ∀ d i, (h1 : i + d + 1 < xs.length) → (code (xs[i]'(by omega))).toList < (code xs[i + d + 1]).toList := by
  intro d
  induction d with
  | zero=>intro i h1; exact adj i h1
  | succ d ih =>
   intro i h1
   exact List.lt_trans (ih i (by omega)) (adj (i+d+1) h1)
 intro i j hi hj hij
 obtain ⟨d,rfl⟩ : ∃ d,j = i+d+1:=⟨j - i - 1,by omega⟩
 rw [less_eq]
 simpa using far d i hj
theorem pairwise_asc {α:Type} (code:α→ByteArray) {xs:List α} (h:xs.Pairwise (fun a b=>Op.bytesLess (code a).toList (code b).toList = true)) (i:Nat) (hi:i < xs.length) : ascAt code xs i xs[i] = true:=by
 cases i with
 | zero=>exact ascAt_zero ..
 | succ m =>
  rw [ascAt_succ _ _ _ _ (by omega)]
  exact List.pairwise_iff_getElem.1 h m (m+1) (by omega) hi (by omega)
theorem validD_iff {xs:List DedT} : validD xs = true ↔ xs.length≤16∧(∀ x ∈ xs,DedOk x)∧xs.Pairwise (fun a b=>Op.bytesLess a.code.toList b.code.toList = true):=by
 rw [validD,allOk_iff]
 constructor
 ·
  rintro ⟨h1,h2⟩
  refine ⟨h1,fun x hx=>?_,asc_pairwise DedT.code xs fun i hi=>?_⟩
  ·
   obtain ⟨i,hi,rfl⟩:=List.mem_iff_getElem.1 hx
   exact okD_ok (h2 i hi)
  ·
   have:=h2 i hi
   simp only [okD,Bool.and_eq_true] at this
   exact this.1.1.1.1.2
 ·
  rintro ⟨h1,h2,h3⟩
  exact ⟨h1,fun i hi=>ok_okD (h2 _ (List.getElem_mem hi)) (pairwise_asc DedT.code h3 i hi)⟩
theorem recB_iff {xs:List Elem} : recB xs = true ↔ xs.length≤128∧(∀ x ∈ xs,nameB x.code = true∧0≤x.amount∧x.amount≤1000000000000)∧SortedE xs:=by
 rw [recB,allOk_iff]
 constructor
 ·
  rintro ⟨h1,h2⟩
  refine ⟨h1,fun x hx=>?_,asc_pairwise Elem.code xs fun i hi=>?_⟩
  ·
   obtain ⟨i,hi,rfl⟩:=List.mem_iff_getElem.1 hx
   have:=h2 i hi
   simp only [okR,Bool.and_eq_true,inB_iff] at this
   exact ⟨this.1.1,this.2⟩
  ·
   have:=h2 i hi
   simp only [okR,Bool.and_eq_true] at this
   exact this.1.2
 ·
  rintro ⟨h1,h2,h3⟩
  refine ⟨h1,fun i hi=>?_⟩
  obtain ⟨g1,g2⟩:=h2 _ (List.getElem_mem hi)
  simp only [okR,Bool.and_eq_true,inB_iff]
  exact ⟨⟨g1,pairwise_asc Elem.code h3 i hi⟩,g2⟩
def wantA (d:DedT) (base:Int) : Int:=min (d.amount+partN base d.rate 1000000 1 4) 1000000000
def wantN (d:DedT) (base taken : Int) : Int:=if 0 < d.cap then min (wantA d base) (max (d.cap - taken) 0) else wantA d base
def wantE (d:DedT) (base taken : Int) : Int:=if validD [d] = false then 1 else if inB base 1000000000 = false then 2 else if inB taken 1000000000000 = false then 2 else 0
def wantR (d:DedT) (base taken : Int) : Int:=if wantE d base taken = 0 then wantN d base taken else 0
theorem wantA_bd {d:DedT} {base:Int} (h:DedOk d) (h1:0≤base) (h2:base≤1000000000) : partE base d.rate 1000000 1 4 = 0∧0≤partN base d.rate 1000000 1 4∧partN base d.rate 1000000 1 4≤1000000000∧0≤wantA d base∧wantA d base≤1000000000:=by
 obtain ⟨a,b,c⟩:=rate_part base d.rate 4 h1 (by omega) h.t0 h.t1 (by decide)
 have:=h.a0
 refine ⟨a,b,by omega,?_,?_⟩ <;> unfold wantA <;> omega
theorem wantN_bd {d:DedT} {base taken : Int} (h:DedOk d) (h1:0≤base) (h2:base≤1000000000) : 0≤wantN d base taken∧wantN d base taken≤1000000000:=by
 obtain ⟨_,_,_,a,b⟩:=wantA_bd h h1 h2
 unfold wantN
 split <;> omega
def atE (l:List Elem) (c:ByteArray) : Int:=match l with | []=>0 | x :: r=>if x.code.toList == c.toList then x.amount else atE r c
theorem atE_skip {l:List Elem} {c:ByteArray} {k:Nat} (hk:k≤l.length) (h : ∀ j,(hj:j < l.length)→j < k→(l[j].code.toList == c.toList) = false) : atE l c = atE (l.drop k) c:=by
 induction l generalizing k with
 | nil=>simp
 | cons a l ih =>
  cases k with
  | zero=>simp
  | succ k =>
   have h0:=h 0 (by simp) (by omega)
   simp only [List.getElem_cons_zero] at h0
   rw [atE,h0,List.drop_succ_cons]
   exact ih (by simp at hk; omega) (fun j hj hjk=>by have:=h (j+1) (by simp; omega) (by omega); simpa using this)
theorem atE_at {l:List Elem} {c:ByteArray} {k:Nat} (hk:k < l.length) (h : ∀ j,(hj:j < l.length)→j < k→(l[j].code.toList == c.toList) = false) (he : (l[k].code.toList == c.toList) = true) : atE l c = l[k].amount:=by
 rw [atE_skip (by omega) h,List.drop_eq_getElem_cons hk,atE,he]; rfl
theorem atE_none {l:List Elem} {c:ByteArray} (h : ∀ j,(hj:j < l.length)→(l[j].code.toList == c.toList) = false) : atE l c = 0:=by
 rw [atE_skip (Nat.le_refl _) (fun j hj _=>h j hj),List.drop_length]; rfl
theorem atE_mem {l:List Elem} {c:ByteArray} {P:Int→Prop} (h : ∀ x ∈ l,P x.amount) (h0:P 0) : P (atE l c):=by
 induction l with
 | nil=>exact h0
 | cons a l ih =>
  rw [atE]
  split
  ·
   exact h a (by simp)
  ·
   exact ih (fun x hx=>h x (by simp [hx]))
def amtT (before:Bool) (base:Int) (year:List Elem) (d:DedT) (left:Int) : Int:=if d.before = before then min (wantN d base (atE year d.code)) left else 0
def tk (before:Bool) (base:Int) (year:List Elem) : List DedT→Int→List Elem
 | [],_=>[]
 | d :: r,left=>(if 0 < amtT before base year d left then [⟨d.code,amtT before base year d left⟩] else [])++tk before base year r (left - amtT before base year d left)
def rst (before:Bool) (base:Int) (year:List Elem) : List DedT→Int→Int
 | [],left=>left
 | d :: r,left=>rst before base year r (left - amtT before base year d left)
def ordD (l:List DedT) : List DedT:=(List.range 100).flatMap fun (r:Nat)=>l.filter fun d=>decide (d.rank = (r:Int))
def takeE (l:List DedT) (base avail : Int) (year:List Elem) : Int:=if validD l = false then 1 else if recB year = false then 1 else if inB base 1000000000 = false then 2 else if inB avail 1000000000 = false then 2 else 0
def takeR (l:List DedT) (before:Bool) (base avail : Int) (year:List Elem) : List Elem:=if takeE l base avail year = 0 then sumsP (tk before base year (ordD l) avail) else []
def addB (x:Elem) : Bool:=nameB x.code && inB x.amount 1000000000
def addO (a b : List Elem) : List Elem:=(b.foldl put a).filter nz
def addE (a b : List Elem) : Int:=if recB a = false then 1 else if b.all addB = false then 1 else if 128 < b.length then 3 else if 128 < (addO a b).length then 3 else if (addO a b).any (fun x=>decide (1000000000000 < x.amount)) then 4 else 0
def addR (a b : List Elem) : List Elem:=if addE a b = 0 then addO a b else []
def sumE : List Elem→Int
 | []=>0
 | x :: r=>x.amount+sumE r
theorem sumE_append (l m : List Elem) : sumE (l++m) = sumE l+sumE m:=by
 induction l with
 | nil=>simp [sumE]
 | cons a l ih=>simp [sumE,ih]; omega
theorem sumE_bd (l:List Elem) (B:Int) (h : ∀ x ∈ l,0≤x.amount∧x.amount≤B) : 0≤sumE l∧sumE l≤l.length * B:=by
 induction l with
 | nil=>simp [sumE]
 | cons a l ih =>
  have h1:=ih (fun x hx=>h x (by simp [hx]))
  have h2:=h a (by simp)
  have h3:((l.length+1:Nat) : Int) * B = l.length * B+B:=by rw [Int.natCast_add,Int.add_mul]; simp
  simp only [sumE,List.length_cons]
  rw [h3]
  omega
end Go.Proofs.YtjncpgbhokjbfaaGreat
namespace Go.Proofs.YtjncpgbhokjbfaaGreat
open Go.RowKit
theorem pick_new (b M : Nat) (W:World) (l:List Int) (cs:Array Value) (n c : Nat) (hcs:cs = (l.flatMap encI).toArray) (hn:n = l.length) (hM:M≤1000000) (hd:DeckIn W b M) (hl:l ≠ []) (hn2:l.length≤1000) :
  Calls Tryz.prog 79 #[.pointer (some ⟨b,0,none⟩),.slice (some ⟨W.heap.size,0,none⟩) n c] (W.alloc (.cells cs 3)) fun e w'=>∃ r:Int,e = .returned (.int .i64 r)∧r ∈ l∧DeckIn w' b (M+1)∧W.grownBy w' (some b):=by
 subst hn
 have hlt:=hd.lt
 refine (pick_any b M _ (some ⟨W.heap.size,0,none⟩) l c hM (hd.alloc _) hl hn2 ?_ ?_).mono ?_
 ·
  exact (SliceOf.new encI_len W l cs 3 hcs).more (by simp)
 ·
  intro a ha; injection ha with ha; subst ha; show W.heap.size ≠ b; omega
 ·
  rintro e w2 ⟨r,rfl,hr,hd2,hg2⟩
  exact ⟨r,rfl,hr,hd2,only_trans (only_alloc (only_refl _ _) _) hg2⟩
end Go.Proofs.YtjncpgbhokjbfaaGreat
namespace Go.Proofs.YtjncpgbhokjbfaaGreat
open Go.RowKit
def codesD : List ByteArray:=[⟨#[99,108,117,98]⟩,⟨#[108,111,97,110]⟩,⟨#[112,108,97,110]⟩,⟨#[117,110,105,111,110]⟩]
def cellsD : Array Value:=#[.string ⟨#[99,108,117,98]⟩,.string ⟨#[108,111,97,110]⟩,.string ⟨#[112,108,97,110]⟩,.string ⟨#[117,110,105,111,110]⟩]
def codeD (k:Nat) : ByteArray:=codesD.getD k ⟨#[]⟩
theorem cellsD_at (k:Nat) (h:k < 4) : cellsD[k]? = some (.string (codeD k)):=by
 match k,h with
 | 0,_=>rfl
 | 1,_=>rfl
 | 2,_=>rfl
 | 3,_=>rfl
theorem takeD (k:Nat) (h:k < 4) : codesD.take (k+1) = codesD.take k++[codeD k]:=by
 match k,h with
 | 0,_=>rfl
 | 1,_=>rfl
 | 2,_=>rfl
 | 3,_=>rfl
theorem codesD_name : ∀ c ∈ codesD,nameB c = true:=by decide +kernel
theorem codesD_asc : codesD.Pairwise (fun a b=>Op.bytesLess a.toList b.toList = true):=by decide +kernel
theorem codesD_size : ∀ c ∈ codesD,c.size≤24:=by decide
structure GenC {α:Type} (code:α→ByteArray) (ok:α→Prop) (k:Nat) (xs:List α) : Prop where
 sub:(xs.map code).Sublist (codesD.take k)
 ok:∀ x ∈ xs,ok x
section
variable {α:Type} {code:α→ByteArray} {ok:α→Prop} {k:Nat} {xs:List α}
theorem GenC.nil_ : GenC code ok 0 []:=⟨by simp,by simp⟩
theorem GenC.skip (h:GenC code ok k xs) (hk:k < 4) : GenC code ok (k+1) xs :=
 ⟨by rw [takeD k hk]; exact h.sub.trans (List.sublist_append_left _ _),h.ok⟩
theorem GenC.more (h:GenC code ok k xs) (hk:k < 4) (x:α) (hc:code x = codeD k) (hx:ok x) : GenC code ok (k+1) (xs++[x]):=by
 refine ⟨?_,fun y hy=>?_⟩
 ·
  rw [takeD k hk,List.map_append]
  exact h.sub.append (by simp [hc])
 ·
  rcases List.mem_append.1 hy with h1 | h1
  ·
   exact h.ok y h1
  ·
   simp at h1; subst h1; exact hx
theorem GenC.len (h:GenC code ok k xs) : xs.length≤4:=by
 have:=h.sub.length_le
 simp [codesD] at this
 omega
theorem GenC.mem (h:GenC code ok k xs) {x:α} (hx:x ∈ xs) : code x ∈ codesD:=List.mem_of_mem_take (h.sub.subset (List.mem_map_of_mem hx))
theorem GenC.asc (h:GenC code ok k xs) : xs.Pairwise (fun a b=>Op.bytesLess (code a).toList (code b).toList = true):=by
 have h1:=codesD_asc.sublist (h.sub.trans (List.take_sublist _ _))
 exact List.pairwise_map.1 h1
end
def DrawnD (x:DedT) : Prop:=(0≤x.rank∧x.rank≤2)∧(0≤x.amount∧x.amount < 600000)∧(0≤x.rate∧x.rate≤50000)∧0≤x.cap∧x.cap≤20000
def DrawnR (x:Elem) : Prop:=0≤x.amount∧x.amount < 600000
abbrev GenD:=GenC DedT.code DrawnD
abbrev GenR:=GenC Elem.code DrawnR
theorem GenD.valid {k:Nat} {xs:List DedT} (h:GenD k xs) : validD xs = true:=by
 refine validD_iff.2 ⟨by have:=h.len; omega,fun x hx=>?_,h.asc⟩
 obtain ⟨⟨a,b⟩,⟨c,d⟩,⟨e,f⟩,g,i⟩:=h.ok x hx
 exact ⟨codesD_name _ (h.mem hx),by omega,by omega,by omega,by omega,by omega,by omega,by omega,by omega⟩
theorem GenR.valid {k:Nat} {xs:List Elem} (h:GenR k xs) : recB xs = true:=by
 refine recB_iff.2 ⟨by have:=h.len; omega,fun x hx=>?_,h.asc⟩
 obtain ⟨a,b⟩:=h.ok x hx
 exact ⟨codesD_name _ (h.mem hx),by omega,by omega⟩
theorem GenD.size {k:Nat} {xs:List DedT} (h:GenD k xs) : ∀ x ∈ xs,x.code.size≤maxLen:=fun x hx=>Nat.le_trans (codesD_size _ (h.mem hx)) (by unfold maxLen; omega)
theorem GenR.size {k:Nat} {xs:List Elem} (h:GenR k xs) : ∀ x ∈ xs,x.code.size≤maxLen:=fun x hx=>Nat.le_trans (codesD_size _ (h.mem hx)) (by unfold maxLen; omega)
set_option maxRecDepth 100000 in
set_option maxHeartbeats 2000000 in
theorem deductions_any (b M : Nat) (w:World) (hM:M≤800000) (hd:DeckIn w b M) :
  Calls Tryz.prog 81 #[.pointer (some ⟨b,0,none⟩)] w fun e w'=>∃ v xs,e = .returned v∧GenD 4 xs∧Own encD 6 162 w' w.heap.size v xs∧DeckIn w' b (M+32)∧w.grownBy w' (some b):=by
 have hlt:=hd.lt
 go_enter Tryz.func81,Tryz.ntmps81
 go_wp2_with fail
 rw [show Obj.cells #[.string ⟨#[99,108,117,98]⟩,.string ⟨#[108,111,97,110]⟩,.string ⟨#[112,108,97,110]⟩,.string ⟨#[117,110,105,111,110]⟩] 9 = Obj.cells cellsD 9 from rfl]
 go_loopw [3,8] (fun v i wr=>∃ (k:Nat) (xs:List DedT),k≤4∧i = .int .i64 k∧GenD k xs∧Own encD 6 162 wr (w.heap.size+1) v xs∧DeckIn wr b (M+8 * k)∧Blk wr w.heap.size 9 cellsD∧w.grownBy wr (some b)) (fun _ i _=>4 - (intOf i).toNat)
 case atStart=>exact ⟨0,[],by omega,rfl,GenC.nil_,Own.nil_ _ _,hd.alloc _,Blk.new _ _ _,only_alloc (only_refl _ _) _⟩
 case round =>
  obtain ⟨k,xs,hk,rfl,hgen,hown,hdk,hblk,hg⟩:=hrel
  by_cases hltk:k < 4
  ·
   have c0:=(hblk.cell k).trans (cellsD_at k hltk)
   go_wp2_with fail
   refine (next_any b (M+8 * k) _ _ (by omega) (by omega) (by omega) hdk).mono ?_
   rintro e w1 ⟨r1,rfl,ha1,hb1,hd1,hg1⟩
   have hs0:=hblk.lt
   by_cases hr:r1 = 0
   ·
    subst hr
    go_wp2_with fail
    refine (next_any b (M+8 * k+1) _ _ (by omega) (by omega) (by omega) hd1).mono ?_
    rintro e w2 ⟨r2,rfl,ha2,hb2,hd2,hg2⟩
    go_wp2_with fail
    refine (next_any b (M+8 * k+1+1) _ _ (by omega) (by omega) (by omega) hd2).mono ?_
    rintro e w3 ⟨r3,rfl,ha3,hb3,hd3,hg3⟩
    go_wp2_with fail
    refine (small_any b (M+8 * k+1+1+1) _ (by omega) hd3).mono ?_
    rintro e w4 ⟨r4,rfl,ha4,hb4,hd4,hg4⟩
    go_wp2_with fail
    refine (pick_new b (M+8 * k+1+1+1+2) w4 [0,100,5000,r4] _ _ _ rfl rfl (by omega) hd4 (by simp) (by simp)).mono ?_
    rintro e w5 ⟨r5,rfl,hm5,hd5,hg5⟩
    go_wp2_with fail
    refine (pick_new b (M+8 * k+1+1+1+2+1) w5 [0,0,10000,50000] _ _ _ rfl rfl (by omega) hd5 (by simp) (by simp)).mono ?_
    rintro e w6 ⟨r6,rfl,hm6,hd6,hg6⟩
    go_wp2_with fail
    refine (pick_new b (M+8 * k+1+1+1+2+1+1) w6 [0,0,20000,100] _ _ _ rfl rfl (by omega) hd6 (by simp) (by simp)).mono ?_
    rintro e w7 ⟨r7,rfl,hm7,hd7,hg7⟩
    have hG:=only_trans (only_trans (only_trans (only_trans (only_trans (only_trans hg1 hg2) hg3) hg4) hg5) hg6) hg7
    have hown7:=hown.kept hG (by intro g e; injection e; omega)
    have hblk7:=hblk.grown hG (by intro e; injection e; omega)
    have hgg:=only_trans hg hG
    have hs7:=hG.size
    have hlen:=hgen.len
    have hdr5:0≤r5∧r5 < 600000:=by simp at hm5; omega
    have hdr6:0≤r6∧r6≤50000:=by simp at hm6; omega
    have hdr7:0≤r7∧r7≤20000:=by simp at hm7; omega
    clear hown hblk hg hg1 hg2 hg3 hg4 hg5 hg6 hg7 hdk hd1 hd2 hd3 hd4 hd5 hd6 c0 hm5 hm6 hm7 hG
    go_wp2_with (at_builtin; (refine wpList_append_one _ _ 74 ⟨_,_,_,_,_,_⟩ _ 56 _ infoD Tryz.underlying74 hown7 encD_len (by omega) rfl (encD_one _) (by omega) (by omega) (by omega) (by rfl) (by rfl) (by rfl) (by rfl) (by simp) (by rfl) ?_); intro v2 w8 hown8 hg8)
    have hr8:∀ g,Value.ownBlock _ = some g→w.heap.size+1≤g:=fun g e=>(hown7.block_lt e).1
    go_roundw
    case rel =>
     refine ⟨k+1,_,by omega,by go_num,?_,hown8,(hd7.grown hg8 (fun g e=>by have:=hr8 g e; omega)).mono (by omega),hblk7.grown hg8 (fun e=>by have:=hr8 _ e.symm; omega),only_then hgg hg8 (fun g e=>.inl (by have:=hr8 g e; omega))⟩
     exact hgen.more hltk _ rfl ⟨⟨ha2,by show r2≤2; omega⟩,hdr5,hdr6,hdr7⟩
    case measure=>simp [intOf]; omega
   ·
    have hr':(r1 == 0) = false:=by simpa using hr
    have hown1:=hown.kept hg1 (by intro g e; injection e; omega)
    have hblk1:=hblk.grown hg1 (by intro e; injection e; omega)
    clear hr
    go_wp2_with fail
    go_roundw
    case rel=>exact ⟨k+1,xs,by omega,by go_num,hgen.skip hltk,hown1,hd1.mono (by omega),hblk1,only_trans hg hg1⟩
    case measure=>simp [intOf]; omega
  ·
   go_wp2
   go_ret
   obtain rfl:k = 4:=by omega
   exact ⟨_,xs,rfl,hgen,hown.weaken (by omega),hdk,hg⟩
set_option maxRecDepth 100000 in
set_option maxHeartbeats 2000000 in
theorem record_any (b M : Nat) (w:World) (hM:M≤800000) (hd:DeckIn w b M) :
  Calls Tryz.prog 85 #[.pointer (some ⟨b,0,none⟩)] w fun e w'=>∃ v xs,e = .returned v∧GenR 4 xs∧Own encE 2 109 w' w.heap.size v xs∧DeckIn w' b (M+16)∧w.grownBy w' (some b):=by
 have hlt:=hd.lt
 go_enter Tryz.func85,Tryz.ntmps85
 go_wp2_with fail
 rw [show Obj.cells #[.string ⟨#[99,108,117,98]⟩,.string ⟨#[108,111,97,110]⟩,.string ⟨#[112,108,97,110]⟩,.string ⟨#[117,110,105,111,110]⟩] 9 = Obj.cells cellsD 9 from rfl]
 go_loopw [3,8] (fun v i wr=>∃ (k:Nat) (xs:List Elem),k≤4∧i = .int .i64 k∧GenR k xs∧Own encE 2 109 wr (w.heap.size+1) v xs∧DeckIn wr b (M+4 * k)∧Blk wr w.heap.size 9 cellsD∧w.grownBy wr (some b)) (fun _ i _=>4 - (intOf i).toNat)
 case atStart=>exact ⟨0,[],by omega,rfl,GenC.nil_,Own.nil_ _ _,hd.alloc _,Blk.new _ _ _,only_alloc (only_refl _ _) _⟩
 case round =>
  obtain ⟨k,xs,hk,rfl,hgen,hown,hdk,hblk,hg⟩:=hrel
  by_cases hltk:k < 4
  ·
   have c0:=(hblk.cell k).trans (cellsD_at k hltk)
   go_wp2_with fail
   refine (next_any b (M+4 * k) _ _ (by omega) (by omega) (by omega) hdk).mono ?_
   rintro e w1 ⟨r1,rfl,ha1,hb1,hd1,hg1⟩
   have hs0:=hblk.lt
   by_cases hr:r1 = 0
   ·
    subst hr
    go_wp2_with fail
    refine (small_any b (M+4 * k+1) _ (by omega) hd1).mono ?_
    rintro e w4 ⟨r4,rfl,ha4,hb4,hd4,hg4⟩
    go_wp2_with fail
    refine (pick_new b (M+4 * k+1+2) w4 [0,50,100,19999,20000,r4] _ _ _ rfl rfl (by omega) hd4 (by simp) (by simp)).mono ?_
    rintro e w7 ⟨r7,rfl,hm7,hd7,hg7⟩
    have hG:=only_trans (only_trans hg1 hg4) hg7
    have hown7:=hown.kept hG (by intro g e; injection e; omega)
    have hblk7:=hblk.grown hG (by intro e; injection e; omega)
    have hgg:=only_trans hg hG
    have hs7:=hG.size
    have hlen:=hgen.len
    have hdr7:0≤r7∧r7 < 600000:=by simp at hm7; omega
    clear hown hblk hg hg1 hg4 hg7 hdk hd1 hd4 c0 hm7 hG
    go_wp2_with (at_builtin; (refine wpList_append_one _ _ 79 ⟨_,_⟩ _ 24 _ infoE Tryz.underlying79 hown7 encE_len (by omega) rfl (encE_one _) (by omega) (by omega) (by omega) (by rfl) (by rfl) (by rfl) (by rfl) (by simp) (by rfl) ?_); intro v2 w8 hown8 hg8)
    have hr8:∀ g,Value.ownBlock _ = some g→w.heap.size+1≤g:=fun g e=>(hown7.block_lt e).1
    go_roundw
    case rel =>
     refine ⟨k+1,_,by omega,by go_num,?_,hown8,(hd7.grown hg8 (fun g e=>by have:=hr8 g e; omega)).mono (by omega),hblk7.grown hg8 (fun e=>by have:=hr8 _ e.symm; omega),only_then hgg hg8 (fun g e=>.inl (by have:=hr8 g e; omega))⟩
     exact hgen.more hltk _ rfl hdr7
    case measure=>simp [intOf]; omega
   ·
    have hr':(r1 == 0) = false:=by simpa using hr
    have hown1:=hown.kept hg1 (by intro g e; injection e; omega)
    have hblk1:=hblk.grown hg1 (by intro e; injection e; omega)
    clear hr
    go_wp2_with fail
    go_roundw
    case rel=>exact ⟨k+1,xs,by omega,by go_num,hgen.skip hltk,hown1,hd1.mono (by omega),hblk1,only_trans hg hg1⟩
    case measure=>simp [intOf]; omega
  ·
   go_wp2
   go_ret
   obtain rfl:k = 4:=by omega
   exact ⟨_,xs,rfl,hgen,hown.weaken (by omega),hdk,hg⟩
end Go.Proofs.YtjncpgbhokjbfaaGreat
namespace Go.Proofs.YtjncpgbhokjbfaaGreat
open Go.RowKit
theorem infoI : (Tryz.prog.info? 3).map (fun i=>(i.zero,i.size,i.bytes)) = some (some (.int .i64 0),1,8):=by kernel_rfl
theorem encI_one (x:Int) : ∀ u ∈ encI x,u.oneCell' = true:=by intro u hu; simp [encI] at hu; subst hu; rfl
theorem lit_ints (w:World) (l:List Int) (cs:Array Value) (h:cs = (l.flatMap encI).toArray) : SliceOf encI 1 (w.alloc (.cells cs 3)) (w.alloc (.cells cs 3)).heap.size (some ⟨w.heap.size,0,none⟩) l :=
 (SliceOf.new encI_len w l cs 3 h).more (by simp)
set_option maxHeartbeats 1000000 in
theorem rate_any (b M : Nat) (w:World) (hM:M≤900000) (hd:DeckIn w b M) :
  Calls Tryz.prog 139 #[.pointer (some ⟨b,0,none⟩)] w fun e w'=>∃ r:Int,e = .returned (.int .i64 r)∧0≤r∧r≤1000000∧DeckIn w' b (M+2)∧w.grownBy w' (some b):=by
 have hlt:=hd.lt
 go_enter Tryz.func139,Tryz.ntmps139
 go_wp2_with fail
 refine (next_any b M _ _ (by omega) (by omega) (by omega) hd).mono ?_
 rintro e w1 ⟨r1,rfl,ha1,hb1,hd1,hg1⟩
 have hlt1:=hd1.lt
 go_wp2_with fail
 refine (pick_any b (M+1) _ _ [0,1,75000,93000,200000,333333,420000,500000,1000000,r1] _ (by omega) (hd1.alloc _) (by simp) (by simp) (lit_ints w1 _ _ rfl) (by intro a ha; injection ha with ha; subst ha; simp; omega)).mono ?_
 rintro e w2 ⟨r2,rfl,hr,hd2,hg2⟩
 go_wp2
 go_ret
 have:0≤r2∧r2≤1000000:=by simp at hr; omega
 exact ⟨r2,rfl,this.1,this.2,hd2,only_trans (only_alloc hg1 _) hg2⟩
set_option maxHeartbeats 2000000 in
theorem bases_any (b M n : Nat) (w:World) (hM:M≤500000) (hn:n≤1000) (hd:DeckIn w b M) :
  Calls Tryz.prog 84 #[.pointer (some ⟨b,0,none⟩),.int .i64 n] w fun e w'=>∃ v xs,e = .returned v∧xs.length = n∧(∀ x ∈ xs,0≤x∧x≤1000000)∧Own encI 1 3 w' w.heap.size v xs∧DeckIn w' b (M+5 * n)∧w.grownBy w' (some b):=by
 have hlt:=hd.lt
 go_enter Tryz.func84,Tryz.ntmps84
 go_wp2
 go_loopw [5,6] (fun v i wr=>∃ (k:Nat) (xs:List Int),k≤n∧i = .int .i64 k∧xs.length = k∧Hid (∀ x ∈ xs,0≤x∧x≤1000000)∧Own encI 1 3 wr w.heap.size v xs∧DeckIn wr b (M+5 * k)∧w.grownBy wr (some b)) (fun _ i _=>n - (intOf i).toNat)
 case atStart=>exact ⟨0,[],by omega,rfl,rfl,(fun x hx=>by cases hx),Own.nil_ _ _,hd,only_refl _ _⟩
 case round =>
  obtain ⟨k,xs,hk,rfl,hlen,hall,hown,hdk,hg⟩:=hrel
  have HLEN:=Lib.hid hlen
  clear hlen
  by_cases hltk:k < n
  ·
   go_wp2_with fail
   refine (small_any b (M+5 * k) _ (by omega) hdk).mono ?_
   rintro e w1 ⟨r1,rfl,ha1,hb1,hd1,hg1⟩
   go_wp2_with fail
   refine (small_any b (M+5 * k+2) _ (by omega) hd1).mono ?_
   rintro e w2 ⟨r2,rfl,ha2,hb2,hd2,hg2⟩
   have hlt2:=hd2.lt
   go_wp2_with fail
   refine (pick_any b (M+5 * k+2+2) _ _ [r1,r2,0,500000,1000000] _ (by omega) (hd2.alloc _) (by simp) (by simp) (lit_ints w2 _ _ rfl) (by intro a ha; injection ha with ha; subst ha; simp; omega)).mono ?_
   rintro e w3 ⟨r3,rfl,hr,hd3,hg3⟩
   have h3:0≤r3∧r3≤1000000:=by simp at hr; omega
   have hG:wr.grownBy w3 (some b):=only_trans (only_alloc (only_trans hg1 hg2) _) hg3
   have hown3:=hown.kept hG (by intro g e; injection e; omega)
   have hs3:w.heap.size≤w3.heap.size:=Nat.le_trans hg.size hG.size
   have hr7:=fun q hq=>(hown3.block_lt (g:=q) hq).1
   have hxl:xs.length < 4294967296:=by have:=HLEN.out; omega
   have hgg:=only_trans hg hG
   clear hd1 hd2 hg1 hg2 hg3 hdk hown hr hG hg
   go_wp2_with (at_builtin; (refine wpList_append_one _ _ 22 r3 _ 8 _ infoI Tryz.underlying22 hown3 encI_len (by omega) rfl (encI_one _) hxl (by omega) hs3 (by rfl) (by rfl) (by rfl) (by rfl) (by simp) (by rfl) ?_); intro v2 w6 hown6 hg6)
   go_roundw
   case rel =>
    have hfin:∃ (k':Nat) (xs':List Int),k'≤n∧Value.int .i64 ((k:Int)+1) = .int .i64 k'∧xs'.length = k'∧Hid (∀ x ∈ xs',0≤x∧x≤1000000)∧Own encI 1 3 w6 w.heap.size v2 xs'∧DeckIn w6 b (M+5 * k')∧w.grownBy w6 (some b):=by
     refine ⟨k+1,xs++[r3],by omega,by go_num,by have:=HLEN.out; simp; omega,fun x hx=>?_,hown6,(hd3.grown hg6 (fun q e=>by have:=hr7 q e; omega)).mono (by omega),only_then hgg hg6 (fun q e=>.inl (hr7 q e))⟩
     rcases List.mem_append.1 hx with hx | hx
     ·
      exact hall.out x hx
     ·
      simp at hx; subst hx; exact h3
    first | exact hfin | ((repeat apply Exists.intro); exact ⟨hfin,rfl⟩)
   case measure=>simp [intOf]; omega
  ·
   go_wp2
   go_ret
   exact ⟨_,xs,rfl,by have:=HLEN.out; omega,hall.out,hown,hdk.mono (by omega),hg⟩
theorem DeckIn.set {w:World} {b M : Nat} (h:DeckIn w b M) {g:Nat} (hg:b < g) (i:Nat) (u:Value) : DeckIn (w.setCell ⟨g,i,none⟩ u) b M :=
 h.grown (only_setCell (g:=g) (p:=⟨g,i,none⟩) (only_refl _ _) (.inl rfl) u) (fun q e=>by
  have e':g = q:=by injection e
  omega)
end Go.Proofs.YtjncpgbhokjbfaaGreat
