/- Joined texts: Round2 Round3 Ded. Conditions: as stated. -/
import Derived.Test.YtlhkojcmcmkmaaaGreatJElem
namespace Go.Proofs.YtlhkojcmcmkmaaaGreat
open Go.RowKit
theorem mul_bd (a b A B : Int) (h1 : -A≤a) (h2:a≤A) (h3:0≤b) (h4:b≤B) (hA:0≤A) : -(A * B)≤a * b∧a * b≤A * B:=by
 have e1:A * b≤A * B:=Int.mul_le_mul_of_nonneg_left h4 hA
 constructor
 ·
  have : -A * b≤a * b:=Int.mul_le_mul_of_nonneg_right h1 h3
  rw [Int.neg_mul] at this
  omega
 ·
  have:a * b≤A * b:=Int.mul_le_mul_of_nonneg_right h2 h3
  omega
theorem partOk_iff (a num den unit mode : Int) : partOk a num den unit mode = true ↔ (-1000000000000≤a∧a≤1000000000000∧0≤num∧num≤1000000∧1≤den∧den≤1000000∧1≤unit∧unit≤1000000)∧modeB mode = true:=by
 simp [partOk]
theorem part_sizes (a num den unit mode : Int) (h:partOk a num den unit mode = true) : (-1000000000000000000≤a * num∧a * num≤1000000000000000000)∧(0 < den * unit∧den * unit≤1000000000000)∧(-2000000000000000000≤rnd (a * num) (den * unit) mode * unit∧rnd (a * num) (den * unit) mode * unit≤2000000000000000000):=by
 obtain ⟨⟨h1,h2,h3,h4,h5,h6,h7,h8⟩,_⟩:=(partOk_iff ..).1 h
 have hp:=mul_bd a num 1000000000000 1000000 h1 h2 h3 h4 (by omega)
 have hp2:=mul_bd den unit 1000000 1000000 (by omega) h6 (by omega) h8 (by omega)
 have hp3:1 * 1≤den * unit:=Int.mul_le_mul h5 h7 (by omega) (by omega)
 have hp4:unit≤den * unit:=by
  have:1 * unit≤den * unit:=Int.mul_le_mul_of_nonneg_right h5 (by omega)
  omega
 refine ⟨by omega,by omega,?_⟩
 generalize hN:a * num = N at *
 generalize hD:den * unit = D at *
 have hq1:=Int.emod_add_mul_ediv N D
 have hq2:=Int.emod_nonneg N (show D ≠ 0 by omega)
 have hq3:=Int.emod_lt_of_pos N (show 0 < D by omega)
 have hr:N / D≤rnd N D mode∧rnd N D mode≤N / D+1:=by
  unfold rnd
  split
  ·
   omega
  ·
   split <;> omega
 have hqb:=ediv_bd N D (by omega) 1000000000000000000 (by omega) (by omega) (by omega)
 have k1:(N / D) * unit≤rnd N D mode * unit:=Int.mul_le_mul_of_nonneg_right hr.1 (by omega)
 have k2:rnd N D mode * unit≤(N / D+1) * unit:=Int.mul_le_mul_of_nonneg_right hr.2 (by omega)
 rw [Int.add_mul] at k2
 have k3 : -1100000000000000000≤(N / D) * unit∧(N / D) * unit≤1100000000000000000:=by
  rcases Int.le_total 0 (N / D) with h0 | h0
  ·
   have e1:(N / D) * unit≤(N / D) * D:=Int.mul_le_mul_of_nonneg_left hp4 h0
   have e2:0≤(N / D) * unit:=Int.mul_nonneg h0 (by omega)
   have e3:D * (N / D) = (N / D) * D:=Int.mul_comm _ _
   omega
  ·
   have e1:(N / D) * D≤(N / D) * unit:=Int.mul_le_mul_of_nonpos_left h0 hp4
   have e2:(N / D) * unit≤0:=Int.mul_nonpos_of_nonpos_of_nonneg h0 (by omega)
   have e3:D * (N / D) = (N / D) * D:=Int.mul_comm _ _
   omega
 omega
theorem partE_of {a num den unit mode : Int} (h:partOk a num den unit mode = false) : partE a num den unit mode = 2∧partN a num den unit mode = 0:=by
 have:partE a num den unit mode = 2:=by rw [partE,if_pos h]
 exact ⟨this,by rw [partN,if_neg (by omega)]⟩
set_option maxHeartbeats 4000000 in
theorem part_any (a num den unit mode : Int) (w:World) :
  Calls Tryz.prog 60 #[.int .i64 a,.int .i64 num,.int .i64 den,.int .i64 unit,.int .i64 mode] w fun e w'=>e = .returned (.tuple #[.int .i64 (partN a num den unit mode),.int .i64 (partE a num den unit mode)])∧∃ q,w' = w.drewN q:=by
 rcases hok:partOk a num den unit mode with _ | _
 ·
  obtain ⟨E1,E2⟩:=partE_of hok
  rw [E1,E2]
  have HOK:=Lib.hid hok
  clear hok E1 E2
  by_cases c0 : -1000000000000≤a
  rotate_left
  ·
   go_enter Tryz.func60,Tryz.ntmps60
   go_wp2_with (go_at_call 115; refine (isMode_any _ _).mono ?_; rintro e w' ⟨rfl,rfl⟩)
   go_ret2
   exact ⟨rfl,0,rfl⟩
  by_cases c1:a≤1000000000000
  rotate_left
  ·
   go_enter Tryz.func60,Tryz.ntmps60
   go_wp2_with (go_at_call 115; refine (isMode_any _ _).mono ?_; rintro e w' ⟨rfl,rfl⟩)
   go_ret2
   exact ⟨rfl,0,rfl⟩
  by_cases c2:0≤num
  rotate_left
  ·
   go_enter Tryz.func60,Tryz.ntmps60
   go_wp2_with (go_at_call 115; refine (isMode_any _ _).mono ?_; rintro e w' ⟨rfl,rfl⟩)
   go_ret2
   exact ⟨rfl,0,rfl⟩
  by_cases c3:num≤1000000
  rotate_left
  ·
   go_enter Tryz.func60,Tryz.ntmps60
   go_wp2_with (go_at_call 115; refine (isMode_any _ _).mono ?_; rintro e w' ⟨rfl,rfl⟩)
   go_ret2
   exact ⟨rfl,0,rfl⟩
  by_cases c4:1≤den
  rotate_left
  ·
   go_enter Tryz.func60,Tryz.ntmps60
   go_wp2_with (go_at_call 115; refine (isMode_any _ _).mono ?_; rintro e w' ⟨rfl,rfl⟩)
   go_ret2
   exact ⟨rfl,0,rfl⟩
  by_cases c5:den≤1000000
  rotate_left
  ·
   go_enter Tryz.func60,Tryz.ntmps60
   go_wp2_with (go_at_call 115; refine (isMode_any _ _).mono ?_; rintro e w' ⟨rfl,rfl⟩)
   go_ret2
   exact ⟨rfl,0,rfl⟩
  by_cases c6:1≤unit
  rotate_left
  ·
   go_enter Tryz.func60,Tryz.ntmps60
   go_wp2_with (go_at_call 115; refine (isMode_any _ _).mono ?_; rintro e w' ⟨rfl,rfl⟩)
   go_ret2
   exact ⟨rfl,0,rfl⟩
  by_cases c7:unit≤1000000
  rotate_left
  ·
   go_enter Tryz.func60,Tryz.ntmps60
   go_wp2_with (go_at_call 115; refine (isMode_any _ _).mono ?_; rintro e w' ⟨rfl,rfl⟩)
   go_ret2
   exact ⟨rfl,0,rfl⟩
  skip
  rcases hm:modeB mode with _ | _
  ·
   go_enter Tryz.func60,Tryz.ntmps60
   go_wp2_with (go_at_call 115; refine (isMode_any _ _).mono ?_; rintro e w' ⟨rfl,rfl⟩)
   go_ret2
   exact ⟨rfl,0,rfl⟩
  ·
   have:=(partOk_iff a num den unit mode).2 ⟨⟨by omega,by omega,by omega,by omega,by omega,by omega,by omega,by omega⟩,hm⟩
   rw [HOK.out] at this
   cases this
 ·
  obtain ⟨⟨p1,p2⟩,⟨p3,p4⟩,p5,p6⟩:=part_sizes a num den unit mode hok
  obtain ⟨⟨h1,h2,h3,h4,h5,h6,h7,h8⟩,hm⟩:=(partOk_iff ..).1 hok
  have hE:partE a num den unit mode = if maxN (partX a num den unit mode) = false then 4 else 0:=by rw [partE,if_neg (by simp [hok])]
  have HE:=Lib.hid hE
  clear hE
  have HOK:=Lib.hid hok
  clear hok
  by_cases x1 : -1000000000000≤rnd (a * num) (den * unit) mode * unit
  ·
   by_cases x2:rnd (a * num) (den * unit) mode * unit≤1000000000000
   ·
    have H4:Hid (partE a num den unit mode = 0):=by rw [Hid,HE.out,if_neg (by simp [maxN,partX,x1,x2])]
    have HN:Hid (partN a num den unit mode = rnd (a * num) (den * unit) mode * unit):=by rw [Hid,partN,if_pos H4.out]; rfl
    go_enter Tryz.func60,Tryz.ntmps60
    go_wp2_with (go_at_call 115; refine (isMode_any _ _).mono ?_; rintro e w' ⟨rfl,rfl⟩)
    refine (quotient_any _ _ _ _ p1 p2 p3 p4).mono ?_
    rintro e w1 ⟨rfl,q1,rfl⟩
    go_wp2
    go_ret2
    exact ⟨by rw [H4.out,HN.out]; rfl,q1,rfl⟩
   ·
    have H4:Hid (partE a num den unit mode = 4):=by rw [Hid,HE.out,if_pos (by simp [maxN,partX,x2])]
    have HN:Hid (partN a num den unit mode = 0):=by rw [Hid,partN,if_neg (by rw [H4.out]; omega)]
    go_enter Tryz.func60,Tryz.ntmps60
    go_wp2_with (go_at_call 115; refine (isMode_any _ _).mono ?_; rintro e w' ⟨rfl,rfl⟩)
    refine (quotient_any _ _ _ _ p1 p2 p3 p4).mono ?_
    rintro e w1 ⟨rfl,q1,rfl⟩
    go_wp2
    go_ret2
    exact ⟨by rw [H4.out,HN.out]; rfl,q1,rfl⟩
  ·
   have H4:Hid (partE a num den unit mode = 4):=by rw [Hid,HE.out,if_pos (by simp [maxN,partX,x1])]
   have HN:Hid (partN a num den unit mode = 0):=by rw [Hid,partN,if_neg (by rw [H4.out]; omega)]
   go_enter Tryz.func60,Tryz.ntmps60
   go_wp2_with (go_at_call 115; refine (isMode_any _ _).mono ?_; rintro e w' ⟨rfl,rfl⟩)
   refine (quotient_any _ _ _ _ p1 p2 p3 p4).mono ?_
   rintro e w1 ⟨rfl,q1,rfl⟩
   go_wp2
   go_ret2
   exact ⟨by rw [H4.out,HN.out]; rfl,q1,rfl⟩
end Go.Proofs.YtlhkojcmcmkmaaaGreat
namespace Go.Proofs.YtlhkojcmcmkmaaaGreat
open Go.RowKit
theorem rate_part (a num mode : Int) (h1:0≤a) (h2:a≤1000000000000) (h3:0≤num) (h4:num≤1000000) (hm:modeB mode = true) : partE a num 1000000 1 mode = 0∧0≤partN a num 1000000 1 mode∧partN a num 1000000 1 mode≤a:=by
 have hok:partOk a num 1000000 1 mode = true:=(partOk_iff ..).2 ⟨⟨by omega,by omega,h3,h4,by omega,by omega,by omega,by omega⟩,hm⟩
 have hN0:0≤a * num:=Int.mul_nonneg h1 h3
 have hN1:a * num≤a * 1000000:=Int.mul_le_mul_of_nonneg_left h4 h1
 have hx:0≤partX a num 1000000 1 mode∧partX a num 1000000 1 mode≤a:=by
  unfold partX rnd
  rw [Int.mul_one,show (1000000:Int) * 1 = 1000000 from rfl]
  generalize a * num = N at *
  split
  ·
   omega
  ·
   split <;> omega
 have hE:partE a num 1000000 1 mode = 0:=by
  rw [partE,if_neg (by simp [hok]),if_neg]
  simp only [maxN]
  simp
  omega
 rw [partN,if_pos hE]
 exact ⟨hE,hx⟩
end Go.Proofs.YtlhkojcmcmkmaaaGreat
namespace Go.Proofs.YtlhkojcmcmkmaaaGreat
open Go.RowKit
structure DedT where
 code:ByteArray
 rank:Int
 before:Bool
 amount:Int
 rate:Int
 cap:Int
deriving DecidableEq
def encD (x:DedT) : List Value:=[.string x.code,.int .i64 x.rank,.bool x.before,.int .i64 x.amount,.int .i64 x.rate,.int .i64 x.cap]
theorem encD_len (x:DedT) : (encD x).length = 6:=rfl
theorem encD_one (x:DedT) : ∀ u ∈ encD x,u.oneCell' = true:=by intro u hu; simp [encD] at hu; rcases hu with rfl | rfl | rfl | rfl | rfl | rfl <;> rfl
theorem infoD : (Tryz.prog.info? 166).map (fun i=>(i.zero,i.size,i.bytes)) = some (some (.agg #[.string ⟨#[]⟩,.int .i64 0,.bool false,.int .i64 0,.int .i64 0,.int .i64 0]),6,56):=by kernel_rfl
def inB (n m : Int) : Bool:=decide (0≤n∧n≤m)
theorem inB_iff {n m : Int} : inB n m = true ↔ 0≤n∧n≤m:=by simp [inB]
theorem inB_no {n m : Int} : inB n m = false ↔ (n < 0 ∨ m < n):=by simp [inB]; omega
def ascAt {α:Type} (code:α→ByteArray) (xs:List α) (i:Nat) (x:α) : Bool:=decide (i = 0) || (match xs[i - 1]? with | some p=>Op.bytesLess (code p).toList (code x).toList | none=>true)
theorem ascAt_zero {α:Type} (code:α→ByteArray) (xs:List α) (x:α) : ascAt code xs 0 x = true:=by simp [ascAt]
theorem ascAt_succ {α:Type} (code:α→ByteArray) (xs:List α) (m:Nat) (x:α) (h:m < xs.length) : ascAt code xs (m+1) x = Op.bytesLess (code xs[m]).toList (code x).toList:=by
 simp [ascAt,List.getElem?_eq_getElem h]
def okD (xs:List DedT) (i:Nat) (x:DedT) : Bool:=nameB x.code && ascAt DedT.code xs i x && inB x.rank 99 && inB x.amount 1000000000 && inB x.cap 1000000000 && inB x.rate 1000000
def okR (xs:List Elem) (i:Nat) (x:Elem) : Bool:=nameB x.code && ascAt Elem.code xs i x && inB x.amount 1000000000000
def allOk {α:Type} (ok:List α→Nat→α→Bool) (n:Nat) (xs:List α) : Bool:=decide (xs.length≤n) && decide (∀ i,(h:i < xs.length)→ok xs i xs[i] = true)
def validD (xs:List DedT) : Bool:=allOk okD 16 xs
def recB (xs:List Elem) : Bool:=allOk okR 128 xs
theorem allOk_no {α:Type} {ok:List α→Nat→α→Bool} {n:Nat} {xs:List α} {i:Nat} (h:i < xs.length) (hn:ok xs i xs[i] = false) : allOk ok n xs = false:=by
 unfold allOk
 simp only [Bool.and_eq_false_iff,decide_eq_false_iff_not]
 right
 intro hh
 have:=hh i h
 rw [hn] at this
 cases this
theorem allOk_yes {α:Type} {ok:List α→Nat→α→Bool} {n:Nat} {xs:List α} (hl:xs.length≤n) (h : ∀ i,(h:i < xs.length)→ok xs i xs[i] = true) : allOk ok n xs = true:=by
 unfold allOk
 simp only [Bool.and_eq_true,decide_eq_true_eq]
 exact ⟨hl,h⟩
theorem allOk_long {α:Type} {ok:List α→Nat→α→Bool} {n:Nat} {xs:List α} (hl:n < xs.length) : allOk ok n xs = false:=by
 unfold allOk
 simp only [Bool.and_eq_false_iff,decide_eq_false_iff_not]
 exact .inl (by omega)
theorem allOk_iff {α:Type} {ok:List α→Nat→α→Bool} {n:Nat} {xs:List α} : allOk ok n xs = true ↔ xs.length≤n∧∀ i,(h:i < xs.length)→ok xs i xs[i] = true:=by
 unfold allOk
 simp only [Bool.and_eq_true,decide_eq_true_eq]
structure DedOk (d:DedT) : Prop where
 name:nameB d.code = true
 r0:0≤d.rank
 r1:d.rank≤99
 a0:0≤d.amount
 a1:d.amount≤1000000000
 c0:0≤d.cap
 c1:d.cap≤1000000000
 t0:0≤d.rate
 t1:d.rate≤1000000
theorem okD_ok {xs:List DedT} {i:Nat} {x:DedT} (h:okD xs i x = true) : DedOk x:=by
 simp only [okD,Bool.and_eq_true,inB_iff] at h
 obtain ⟨⟨⟨⟨⟨h1,_⟩,h3,h3'⟩,h4,h4'⟩,h5,h5'⟩,h6,h6'⟩:=h
 exact ⟨h1,h3,h3',h4,h4',h5,h5',h6,h6'⟩
theorem ok_okD {xs:List DedT} {i:Nat} {x:DedT} (h:DedOk x) (ha:ascAt DedT.code xs i x = true) : okD xs i x = true:=by
 simp only [okD,Bool.and_eq_true,inB_iff]
 exact ⟨⟨⟨⟨⟨h.name,ha⟩,h.r0,h.r1⟩,h.a0,h.a1⟩,h.c0,h.c1⟩,h.t0,h.t1⟩
theorem validD_one {d:DedT} : validD [d] = true ↔ DedOk d:=by
 rw [validD,allOk_iff]
 constructor
 ·
  rintro ⟨_,h⟩
  exact okD_ok (h 0 (by simp))
 ·
  intro h
  refine ⟨by simp,fun i hi=>?_⟩
  obtain rfl:i = 0:=by simp at hi; omega
  exact ok_okD h (ascAt_zero ..)
theorem asc_pairwise {α:Type} (code:α→ByteArray) : ∀ (xs:List α),(∀ i,(h:i < xs.length)→ascAt code xs i xs[i] = true)→xs.Pairwise (fun a b=>Op.bytesLess (code a).toList (code b).toList = true):=by
 intro xs h
 rw [List.pairwise_iff_getElem]
 have adj:∀ m,(h1:m+1 < xs.length)→(code xs[m]).toList < (code xs[m+1]).toList:=by
  intro m h1
  have h2:=h (m+1) h1
  rw [ascAt_succ _ _ _ _ (by omega),less_eq] at h2
  simpa using h2
 have far : ∀ d i, (h1 : i + d + 1 < xs.length) → (code (xs[i]'(by omega))).toList < (code xs[i + d + 1]).toList := by
  intro d
  induction d with
  | zero=>intro i h1; exact adj i h1
  | succ d ih =>
   intro i h1
   exact List.lt_trans (ih i (by omega)) (adj (i+d+1) h1)
 intro i j hi hj hij
 obtain ⟨d,rfl⟩ : ∃ d,j = i+d+1:=⟨j - i - 1,by omega⟩
 rw [less_eq]
 simpa using far d i hj
theorem pairwise_asc {α:Type} (code:α→ByteArray) {xs:List α} (h:xs.Pairwise (fun a b=>Op.bytesLess (code a).toList (code b).toList = true)) (i:Nat) (hi:i < xs.length) : ascAt code xs i xs[i] = true:=by
 cases i with
 | zero=>exact ascAt_zero ..
 | succ m =>
  rw [ascAt_succ _ _ _ _ (by omega)]
  exact List.pairwise_iff_getElem.1 h m (m+1) (by omega) hi (by omega)
theorem validD_iff {xs:List DedT} : validD xs = true ↔ xs.length≤16∧(∀ x ∈ xs,DedOk x)∧xs.Pairwise (fun a b=>Op.bytesLess a.code.toList b.code.toList = true):=by
 rw [validD,allOk_iff]
 constructor
 ·
  rintro ⟨h1,h2⟩
  refine ⟨h1,fun x hx=>?_,asc_pairwise DedT.code xs fun i hi=>?_⟩
  ·
   obtain ⟨i,hi,rfl⟩:=List.mem_iff_getElem.1 hx
   exact okD_ok (h2 i hi)
  ·
   have:=h2 i hi
   simp only [okD,Bool.and_eq_true] at this
   exact this.1.1.1.1.2
 ·
  rintro ⟨h1,h2,h3⟩
  exact ⟨h1,fun i hi=>ok_okD (h2 _ (List.getElem_mem hi)) (pairwise_asc DedT.code h3 i hi)⟩
theorem recB_iff {xs:List Elem} : recB xs = true ↔ xs.length≤128∧(∀ x ∈ xs,nameB x.code = true∧0≤x.amount∧x.amount≤1000000000000)∧SortedE xs:=by
 rw [recB,allOk_iff]
 constructor
 ·
  rintro ⟨h1,h2⟩
  refine ⟨h1,fun x hx=>?_,asc_pairwise Elem.code xs fun i hi=>?_⟩
  ·
   obtain ⟨i,hi,rfl⟩:=List.mem_iff_getElem.1 hx
   have:=h2 i hi
   simp only [okR,Bool.and_eq_true,inB_iff] at this
   exact ⟨this.1.1,this.2⟩
  ·
   have:=h2 i hi
   simp only [okR,Bool.and_eq_true] at this
   exact this.1.2
 ·
  rintro ⟨h1,h2,h3⟩
  refine ⟨h1,fun i hi=>?_⟩
  obtain ⟨g1,g2⟩:=h2 _ (List.getElem_mem hi)
  simp only [okR,Bool.and_eq_true,inB_iff]
  exact ⟨⟨g1,pairwise_asc Elem.code h3 i hi⟩,g2⟩
def wantA (d:DedT) (base:Int) : Int:=min (d.amount+partN base d.rate 1000000 1 4) 1000000000
def wantN (d:DedT) (base taken : Int) : Int:=if 0 < d.cap then min (wantA d base) (max (d.cap - taken) 0) else wantA d base
def wantE (d:DedT) (base taken : Int) : Int:=if validD [d] = false then 1 else if inB base 1000000000 = false then 2 else if inB taken 1000000000000 = false then 2 else 0
def wantR (d:DedT) (base taken : Int) : Int:=if wantE d base taken = 0 then wantN d base taken else 0
theorem wantA_bd {d:DedT} {base:Int} (h:DedOk d) (h1:0≤base) (h2:base≤1000000000) : partE base d.rate 1000000 1 4 = 0∧0≤partN base d.rate 1000000 1 4∧partN base d.rate 1000000 1 4≤1000000000∧0≤wantA d base∧wantA d base≤1000000000:=by
 obtain ⟨a,b,c⟩:=rate_part base d.rate 4 h1 (by omega) h.t0 h.t1 (by decide)
 have:=h.a0
 refine ⟨a,b,by omega,?_,?_⟩ <;> unfold wantA <;> omega
theorem wantN_bd {d:DedT} {base taken : Int} (h:DedOk d) (h1:0≤base) (h2:base≤1000000000) : 0≤wantN d base taken∧wantN d base taken≤1000000000:=by
 obtain ⟨_,_,_,a,b⟩:=wantA_bd h h1 h2
 unfold wantN
 split <;> omega
def atE (l:List Elem) (c:ByteArray) : Int:=match l with | []=>0 | x :: r=>if x.code.toList == c.toList then x.amount else atE r c
theorem atE_skip {l:List Elem} {c:ByteArray} {k:Nat} (hk:k≤l.length) (h : ∀ j,(hj:j < l.length)→j < k→(l[j].code.toList == c.toList) = false) : atE l c = atE (l.drop k) c:=by
 induction l generalizing k with
 | nil=>simp
 | cons a l ih =>
  cases k with
  | zero=>simp
  | succ k =>
   have h0:=h 0 (by simp) (by omega)
   simp only [List.getElem_cons_zero] at h0
   rw [atE,h0,List.drop_succ_cons]
   exact ih (by simp at hk; omega) (fun j hj hjk=>by have:=h (j+1) (by simp; omega) (by omega); simpa using this)
theorem atE_at {l:List Elem} {c:ByteArray} {k:Nat} (hk:k < l.length) (h : ∀ j,(hj:j < l.length)→j < k→(l[j].code.toList == c.toList) = false) (he : (l[k].code.toList == c.toList) = true) : atE l c = l[k].amount:=by
 rw [atE_skip (by omega) h,List.drop_eq_getElem_cons hk,atE,he]; rfl
theorem atE_none {l:List Elem} {c:ByteArray} (h : ∀ j,(hj:j < l.length)→(l[j].code.toList == c.toList) = false) : atE l c = 0:=by
 rw [atE_skip (Nat.le_refl _) (fun j hj _=>h j hj),List.drop_length]; rfl
theorem atE_mem {l:List Elem} {c:ByteArray} {P:Int→Prop} (h : ∀ x ∈ l,P x.amount) (h0:P 0) : P (atE l c):=by
 induction l with
 | nil=>exact h0
 | cons a l ih =>
  rw [atE]
  split
  ·
   exact h a (by simp)
  ·
   exact ih (fun x hx=>h x (by simp [hx]))
def amtT (before:Bool) (base:Int) (year:List Elem) (d:DedT) (left:Int) : Int:=if d.before = before then min (wantN d base (atE year d.code)) left else 0
def tk (before:Bool) (base:Int) (year:List Elem) : List DedT→Int→List Elem
 | [],_=>[]
 | d :: r,left=>(if 0 < amtT before base year d left then [⟨d.code,amtT before base year d left⟩] else [])++tk before base year r (left - amtT before base year d left)
def rst (before:Bool) (base:Int) (year:List Elem) : List DedT→Int→Int
 | [],left=>left
 | d :: r,left=>rst before base year r (left - amtT before base year d left)
def ordD (l:List DedT) : List DedT:=(List.range 100).flatMap fun (r:Nat)=>l.filter fun d=>decide (d.rank = (r:Int))
def takeE (l:List DedT) (base avail : Int) (year:List Elem) : Int:=if validD l = false then 1 else if recB year = false then 1 else if inB base 1000000000 = false then 2 else if inB avail 1000000000 = false then 2 else 0
def takeR (l:List DedT) (before:Bool) (base avail : Int) (year:List Elem) : List Elem:=if takeE l base avail year = 0 then sumsP (tk before base year (ordD l) avail) else []
def addB (x:Elem) : Bool:=nameB x.code && inB x.amount 1000000000
def addO (a b : List Elem) : List Elem:=(b.foldl put a).filter nz
def addE (a b : List Elem) : Int:=if recB a = false then 1 else if b.all addB = false then 1 else if 128 < b.length then 3 else if 128 < (addO a b).length then 3 else if (addO a b).any (fun x=>decide (1000000000000 < x.amount)) then 4 else 0
def addR (a b : List Elem) : List Elem:=if addE a b = 0 then addO a b else []
def sumE : List Elem→Int
 | []=>0
 | x :: r=>x.amount+sumE r
theorem sumE_append (l m : List Elem) : sumE (l++m) = sumE l+sumE m:=by
 induction l with
 | nil=>simp [sumE]
 | cons a l ih=>simp [sumE,ih]; omega
theorem sumE_bd (l:List Elem) (B:Int) (h : ∀ x ∈ l,0≤x.amount∧x.amount≤B) : 0≤sumE l∧sumE l≤l.length * B:=by
 induction l with
 | nil=>simp [sumE]
 | cons a l ih =>
  have h1:=ih (fun x hx=>h x (by simp [hx]))
  have h2:=h a (by simp)
  have h3:((l.length+1:Nat) : Int) * B = l.length * B+B:=by rw [Int.natCast_add,Int.add_mul]; simp
  simp only [sumE,List.length_cons]
  rw [h3]
  omega
end Go.Proofs.YtlhkojcmcmkmaaaGreat
