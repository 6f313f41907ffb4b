/- Joined texts: NetT DedP. Conditions: as stated. -/
import Derived.Test.YtlhkojcmcmkmaaaGreatJRound2
namespace Go.Proofs.YtlhkojcmcmkmaaaGreat
open Go.RowKit
structure SchT where
 code:ByteArray
 employee:Int
 employer:Int
 floor:Int
 ceiling:Int
 unit:Int
 mode:Int
 deductible:Bool
deriving DecidableEq
def encSch (x:SchT) : List Value:=[.string x.code,.int .i64 x.employee,.int .i64 x.employer,.int .i64 x.floor,.int .i64 x.ceiling,.int .i64 x.unit,.int .i64 x.mode,.bool x.deductible]
theorem encSch_len (x:SchT) : (encSch x).length = 8:=rfl
theorem encSch_one (x:SchT) : ∀ u ∈ encSch x,u.oneCell' = true:=by intro u hu; simp [encSch] at hu; rcases hu with rfl | rfl | rfl | rfl | rfl | rfl | rfl | rfl <;> rfl
theorem infoSch : (Tryz.prog.info? 123).map (fun i=>(i.zero,i.size,i.bytes)) = some (some (.agg #[.string ⟨#[]⟩,.int .i64 0,.int .i64 0,.int .i64 0,.int .i64 0,.int .i64 0,.int .i64 0,.bool false]),8,72):=by kernel_rfl
structure LevyT where
 base:Int
 employee:Int
 employer:Int
deriving DecidableEq
def encLv (x:LevyT) : List Value:=[.int .i64 x.base,.int .i64 x.employee,.int .i64 x.employer]
theorem encLv_len (x:LevyT) : (encLv x).length = 3:=rfl
theorem infoLv : (Tryz.prog.info? 142).map (fun i=>(i.zero,i.size,i.bytes)) = some (some (.agg #[.int .i64 0,.int .i64 0,.int .i64 0]),3,24):=by kernel_rfl
structure BrT where
 frm:Int
 rate:Int
deriving DecidableEq
def encBr (x:BrT) : List Value:=[.int .i64 x.frm,.int .i64 x.rate]
theorem encBr_len (x:BrT) : (encBr x).length = 2:=rfl
theorem encBr_one (x:BrT) : ∀ u ∈ encBr x,u.oneCell' = true:=by intro u hu; simp [encBr] at hu; rcases hu with rfl | rfl <;> rfl
theorem infoBr : (Tryz.prog.info? 127).map (fun i=>(i.zero,i.size,i.bytes)) = some (some (.agg #[.int .i64 0,.int .i64 0]),2,16):=by kernel_rfl
structure RowT where
 frm:Int
 tax:Int
deriving DecidableEq
def encRw (x:RowT) : List Value:=[.int .i64 x.frm,.int .i64 x.tax]
theorem encRw_len (x:RowT) : (encRw x).length = 2:=rfl
theorem encRw_one (x:RowT) : ∀ u ∈ encRw x,u.oneCell' = true:=by intro u hu; simp [encRw] at hu; rcases hu with rfl | rfl <;> rfl
theorem infoRw : (Tryz.prog.info? 93).map (fun i=>(i.zero,i.size,i.bytes)) = some (some (.agg #[.int .i64 0,.int .i64 0]),2,16):=by kernel_rfl
structure OrdT where
 id:ByteArray
 rank:Int
 day:Int
 amount:Int
 total:Int
deriving DecidableEq
def encOd (x:OrdT) : List Value:=[.string x.id,.int .i64 x.rank,.int .i64 x.day,.int .i64 x.amount,.int .i64 x.total]
structure EmpC where
 A:Option Addr
 cap:Nat
 l:List Int
 base:Int
def EmpC.v (x:EmpC) : List Int × Int:=(x.l,x.base)
def encEm (x:EmpC) : List Value:=[.slice x.A x.l.length x.cap,.int .i64 x.base]
theorem encEm_len (x:EmpC) : (encEm x).length = 2:=rfl
theorem encEm_one (x:EmpC) : ∀ u ∈ encEm x,u.oneCell' = true:=by intro u hu; simp [encEm] at hu; rcases hu with rfl | rfl <;> rfl
theorem infoEm : (Tryz.prog.info? 137).map (fun i=>(i.zero,i.size,i.bytes)) = some (some (.agg #[.slice none 0 0,.int .i64 0]),2,32):=by kernel_rfl
def sumI : List Int→Int
 | []=>0
 | x :: r=>x+sumI r
theorem sumI_append (l m : List Int) : sumI (l++m) = sumI l+sumI m:=by
 induction l with
 | nil=>simp [sumI]
 | cons a l ih=>simp [sumI,ih]; omega
theorem sumI_take (l:List Int) (k:Nat) (h:k < l.length) : sumI (l.take (k+1)) = sumI (l.take k)+l[k]:=by
 rw [List.take_succ_eq_append_getElem h,sumI_append]; simp [sumI]
theorem sumI_bd {l:List Int} {B:Int} (h : ∀ x ∈ l,0≤x∧x≤B) : 0≤sumI l∧sumI l≤l.length * B:=by
 induction l with
 | nil=>simp [sumI]
 | cons a l ih =>
  have h1:=h a (by simp)
  have h2:=ih (fun x hx=>h x (by simp [hx]))
  simp only [sumI,List.length_cons]
  rw [show ((l.length+1:Nat) : Int) * B = l.length * B+B by rw [Int.natCast_add,Int.add_mul]; omega]
  omega
theorem sumI_mem {l:List Int} (h : ∀ x ∈ l,0≤x) {y:Int} (hy:y ∈ l) : y≤sumI l:=by
 induction l with
 | nil=>cases hy
 | cons a l ih =>
  have h1:=h a (by simp)
  have h3:0≤sumI l:=by
   clear ih hy
   induction l with
   | nil=>simp [sumI]
   | cons b l ih2 =>
    have:=h b (by simp)
    have:=ih2 (fun x hx=>h x (by simp at hx ⊢; rcases hx with e | e; exact .inl e; exact .inr (.inr e)))
    simp only [sumI]; omega
  simp only [sumI]
  rcases List.mem_cons.1 hy with e | e
  ·
   omega
  ·
   have:=ih (fun x hx=>h x (by simp [hx])) e
   omega
def alcP (total:Int) (ws:List Int) : List Int:=ws.map fun x=>total * x / sumI ws
def alcR (total:Int) (ws:List Int) : List Int:=ws.map fun x=>total * x % sumI ws
def bestTo (r:List Int) : Nat→Nat
 | 0=>0
 | k+1=>if r.getD (bestTo r k) 0 < r.getD (k+1) 0 then k+1 else bestTo r k
def bestI (r:List Int) : Nat:=bestTo r (r.length - 1)
def alcGo : Nat→List Int→List Int→List Int
 | 0,p,_=>p
 | m+1,p,r=>alcGo m (p.set (bestI r) (p.getD (bestI r) 0+1)) (r.set (bestI r) (-1))
def alcM (total:Int) (ws:List Int) : Int:=total - sumI (alcP total ws)
def allocN (total:Int) (ws:List Int) : List Int:=alcGo (alcM total ws).toNat (alcP total ws) (alcR total ws)
theorem bestTo_le (r:List Int) (k:Nat) : bestTo r k≤k:=by
 induction k with
 | zero=>exact Nat.le_refl _
 | succ k ih=>rw [bestTo]; split <;> omega
theorem bestI_lt {r:List Int} (h:0 < r.length) : bestI r < r.length:=by
 have:=bestTo_le r (r.length - 1)
 unfold bestI; omega
theorem alcGo_len : ∀ (m:Nat) (p r : List Int),(alcGo m p r).length = p.length:=by
 intro m
 induction m with
 | zero=>intro p r; rfl
 | succ m ih=>intro p r; rw [alcGo,ih]; simp
theorem sumI_set (p:List Int) (i:Nat) (x:Int) (h:i < p.length) : sumI (p.set i x) = sumI p - p.getD i 0+x:=by
 induction p generalizing i with
 | nil=>simp at h
 | cons a p ih =>
  cases i with
  | zero=>simp [sumI]; omega
  | succ i=>simp only [List.set_cons_succ,sumI,ih i (by simpa using h),List.getD_cons_succ]; omega
theorem alcGo_sum : ∀ (m:Nat) (p r : List Int),0 < p.length→r.length = p.length→sumI (alcGo m p r) = sumI p+m:=by
 intro m
 induction m with
 | zero=>intro p r _ _; simp [alcGo]
 | succ m ih =>
  intro p r h1 h2
  have hb:=bestI_lt (r:=r) (by omega)
  rw [alcGo,ih _ _ (by simpa using h1) (by simpa using h2),sumI_set _ _ _ (by omega)]
  omega
theorem getD_nonneg {p:List Int} (h : ∀ x ∈ p,0≤x) (i:Nat) : 0≤p.getD i 0:=by
 rw [List.getD_eq_getElem?_getD]
 cases e:p[i]? with
 | none=>simp
 | some v=>exact h v (List.mem_of_getElem? e)
theorem alcGo_nonneg : ∀ (m:Nat) (p r : List Int),(∀ x ∈ p,0≤x)→∀ x ∈ alcGo m p r,0≤x:=by
 intro m
 induction m with
 | zero=>intro p r h; exact h
 | succ m ih =>
  intro p r h
  refine ih _ _ (fun x hx=>?_)
  rcases List.mem_or_eq_of_mem_set hx with e | e
  ·
   exact h x e
  ·
   have:=getD_nonneg h (bestI r)
   omega
theorem alcP_nonneg {total:Int} {ws:List Int} (h0:0≤total) (hw : ∀ x ∈ ws,0≤x) (hs:0 < sumI ws) : ∀ x ∈ alcP total ws,0≤x:=by
 intro x hx
 obtain ⟨y,hy,rfl⟩:=List.mem_map.1 hx
 exact Int.ediv_nonneg (Int.mul_nonneg h0 (hw y hy)) (by omega)
theorem alcP_sum_le {total:Int} {ws:List Int} (hs:0 < sumI ws) : sumI (alcP total ws)≤total:=by
 have key:∀ (l:List Int) (s:Int),0 < s→sumI (l.map fun x=>total * x / s) * s≤total * sumI l:=by
  intro l s hs
  induction l with
  | nil=>simp [sumI]
  | cons a l ih =>
   have:=Int.emod_add_mul_ediv (total * a) s
   have h2:=Int.emod_nonneg (total * a) (show s ≠ 0 by omega)
   simp only [List.map_cons,sumI,Int.add_mul,Int.mul_add]
   have e:s * (total * a / s) = total * a / s * s:=Int.mul_comm _ _
   omega
 have h1:=key ws (sumI ws) hs
 unfold alcP
 exact Int.le_of_mul_le_mul_right h1 hs
theorem allocN_len (total:Int) (ws:List Int) : (allocN total ws).length = ws.length:=by
 rw [allocN,alcGo_len,alcP,List.length_map]
theorem allocN_nonneg {total:Int} {ws:List Int} (h0:0≤total) (hw : ∀ x ∈ ws,0≤x) (hs:0 < sumI ws) : ∀ x ∈ allocN total ws,0≤x :=
 alcGo_nonneg _ _ _ (alcP_nonneg h0 hw hs)
theorem sumI_pos_len {ws:List Int} (hs:0 < sumI ws) : 0 < ws.length:=by
 cases ws with
 | nil=>simp [sumI] at hs
 | cons a l=>simp
theorem allocN_sum {total:Int} {ws:List Int} (hs:0 < sumI ws) : sumI (allocN total ws) = total:=by
 have h1:=alcP_sum_le (total:=total) hs
 have h2:=sumI_pos_len hs
 rw [allocN,alcGo_sum _ _ _ (by simp [alcP]; exact h2) (by simp [alcP,alcR]),alcM]
 omega
structure SchOk (s:SchT) : Prop where
 name:nameB s.code = true
 e0:0≤s.employee
 e1:s.employee≤1000000
 r0:0≤s.employer
 r1:s.employer≤1000000
 c0:1≤s.ceiling
 c1:s.ceiling≤1000000000
 f0:0≤s.floor
 f1:s.floor≤s.ceiling
 u0:1≤s.unit
 u1:s.unit≤100
 m0:0≤s.mode
 m1:s.mode≤6
def levyN (s:SchT) (b:Int) : LevyT:=⟨b,partN b s.employee 1000000 s.unit s.mode,partN b s.employer 1000000 s.unit s.mode⟩
def insF (s:SchT) (l:List Int) : Int:=sumI (l.filter fun x=>decide (s.floor≤x))
def cumN (s:SchT) (l:List Int) : Int:=min (insF s l) (l.length * s.ceiling)
def subLv (a b : LevyT) : LevyT:=⟨a.base - b.base,a.employee - b.employee,a.employer - b.employer⟩
def nextN (s:SchT) (l:List Int) : LevyT:=subLv (levyN s (cumN s l)) (levyN s (cumN s l.dropLast))
def zLv : LevyT:=⟨0,0,0⟩
def divN (v:LevyT) (ws:List Int) : List LevyT :=
 if sumI ws = 0 then (List.replicate ws.length zLv).set 0 v
 else (List.range ws.length).map fun i=>⟨(allocN v.base ws).getD i 0,(allocN v.employee ws).getD i 0,(allocN v.employer ws).getD i 0⟩
def addL (a b : List Int) : List Int:=List.zipWith (·+·) a b
def sumsJ (n:Nat) (es:List (List Int × Int)) : List Int:=es.foldl (fun acc e=>addL acc (e.1++[e.2])) (List.replicate (n+1) 0)
def basesJ (es:List (List Int × Int)) : List Int:=es.map (·.2)
structure EmpsOk (n:Nat) (es:List (List Int × Int)) : Prop where
 ne:0 < es.length
 len:es.length≤8
 nn:n≤52
 lens:∀ e ∈ es,e.1.length = n
 base:∀ e ∈ es,0≤e.2∧e.2≤1000000000
 earlier:∀ e ∈ es,∀ x ∈ e.1,0≤x∧x≤1000000000
def jointV (s:SchT) (n:Nat) (es:List (List Int × Int)) : LevyT:=nextN s (sumsJ n es)
def jointR (s:SchT) (n:Nat) (es:List (List Int × Int)) : List LevyT:=divN (jointV s n es) (basesJ es)
def overJ (v:LevyT) : Bool:=decide (1000000000 < v.base) || decide (1000000000 < v.employee) || decide (1000000000 < v.employer)
def zBr : BrT:=⟨0,0⟩
def sumTo (f:Nat→Int) : Nat→Int
 | 0=>0
 | n+1=>sumTo f n+f n
structure BrOk (t:List BrT) : Prop where
 ne:0 < t.length
 len:t.length≤24
 zero:(t.getD 0 zBr).frm = 0
 asc:∀ i,i+1 < t.length→(t.getD i zBr).frm < (t.getD (i+1) zBr).frm
 hi:∀ i,i < t.length→(t.getD i zBr).frm≤1000000000000
 r0:∀ i,i < t.length→0≤(t.getD i zBr).rate
 r1:∀ i,i < t.length→(t.getD i zBr).rate≤1000000
def endAt (t:List BrT) (inc:Int) (i:Nat) : Int:=if i+1 < t.length then min inc (t.getD (i+1) zBr).frm else inc
def splitAt' (t:List BrT) (inc:Int) (i:Nat) : Int:=max (endAt t inc i - (t.getD i zBr).frm) 0
def splitN (t:List BrT) (inc:Int) : List Int:=(List.range t.length).map (splitAt' t inc)
def exactN (t:List BrT) (inc:Int) : Int:=sumTo (fun i=>splitAt' t inc i * (t.getD i zBr).rate) t.length
def taxN (t:List BrT) (inc unit mode : Int) : Int:=rnd (exactN t inc) (1000000 * unit) mode * unit
def scF (t:List BrT) (num den : Int) (i:Nat) : Int:=(t.getD i zBr).frm * num / den
def scSkip (t:List BrT) (num den : Int) (i:Nat) : Bool:=decide (i+1 < t.length) && decide (scF t num den (i+1) = scF t num den i)
def scTo (t:List BrT) (num den : Int) : Nat→List BrT
 | 0=>[]
 | k+1=>if scSkip t num den k then scTo t num den k else scTo t num den k++[⟨scF t num den k,(t.getD k zBr).rate⟩]
def scaleN (t:List BrT) (num den : Int) : List BrT:=scTo t num den t.length
structure TarT where
 method:Int
 brs:List BrT
 allowance:Int
 credit:Int
 unit:Int
 mode:Int
 rows:List RowT
def zRw : RowT:=⟨0,0⟩
structure RowsOk (t:List RowT) : Prop where
 ne:0 < t.length
 len:t.length≤256
 zero:(t.getD 0 zRw).frm = 0
 asc:∀ i,i+1 < t.length→(t.getD i zRw).frm < (t.getD (i+1) zRw).frm
 hi:∀ i,i < t.length→(t.getD i zRw).frm≤1000000000
 t0:∀ i,i < t.length→0≤(t.getD i zRw).tax
 t1:∀ i,i < t.length→(t.getD i zRw).tax≤1000000000
structure TarOk (t:TarT) : Prop where
 m0:1≤t.method
 m1:t.method≤3
 brs:BrOk t.brs
 a0:0≤t.allowance
 a1:t.allowance≤1000000000
 c0:0≤t.credit
 c1:t.credit≤1000000000
 u0:1≤t.unit
 u1:t.unit≤100
 mo0:0≤t.mode
 mo1:t.mode≤6
 rows:t.method = 1→RowsOk t.rows
 none:t.method ≠ 1→t.rows = []
def tax30N (t:TarT) (l:List BrT) (al cr inc : Int) : Int:=max (taxN l (max (inc - al) 0) t.unit t.mode - cr) 0
def formulaN (t:TarT) (inc count : Int) : Int:=tax30N t t.brs t.allowance t.credit (inc * count) / count
def lookTo (l:List RowT) (inc:Int) : Nat→Int
 | 0=>0
 | k+1=>if (l.getD k zRw).frm≤inc then (l.getD k zRw).tax else lookTo l inc k
def lookN (l:List RowT) (inc:Int) : Int:=lookTo l inc l.length
def dueN (t:TarT) (count k total : Int) : Int:=tax30N t (scaleN t.brs k count) (t.allowance * k / count) (t.credit * k / count) total
def withN (t:TarT) (count periods yinc withheld inc : Int) : Int :=
 if t.method = 1 then lookN t.rows inc else if t.method = 2 then formulaN t inc count else dueN t count (periods+1) (yinc+inc) - withheld
structure ShT where
 fixed:Int
 dependent:Int
 lower:Int
 share:Int
 top:Int
structure ShOk (s:ShT) : Prop where
 f0:0≤s.fixed
 f1:s.fixed≤1000000000
 d0:0≤s.dependent
 d1:s.dependent≤1000000000
 l0:0≤s.lower
 l1:s.lower≤s.fixed
 s0:0≤s.share
 s1:s.share≤1000000
 t0:0≤s.top
 t1:s.top≤1000000000
structure OrdOk (o:OrdT) : Prop where
 name:nameB o.id = true
 r0:0≤o.rank
 r1:o.rank≤9
 d0:0≤o.day
 d1:o.day≤84005
 a0:0≤o.amount
 a1:o.amount≤1000000000
 t0:0≤o.total
 t1:o.total≤1000000000
structure OrdsOk (l:List OrdT) : Prop where
 len:l.length≤16
 ok:∀ o ∈ l,OrdOk o
 asc:l.Pairwise (fun a b=>Op.bytesLess a.id.toList b.id.toList = true)
def claimN (o:OrdT) : Int:=if o.amount = 0 then o.total else min o.amount o.total
def protP (s:ShT) (deps:Int) : Int:=s.fixed+s.dependent * deps
def protN (s:ShT) (net deps : Int) : Int:=if net≤protP s deps then net else protP s deps+partN (min net (max s.top (protP s deps)) - protP s deps) s.share 1000000 1 3
def lowN (s:ShT) (net deps : Int) : Int:=min net (s.lower+s.dependent * deps)
def keyLt (a b : Int × Int) : Prop:=a.1 < b.1 ∨ a.1 = b.1∧a.2 < b.2
instance (a b : Int × Int) : Decidable (keyLt a b):=by unfold keyLt; infer_instance
def elig (priv:Bool) (o:OrdT) : Bool:=decide (o.rank = 0) == priv
def stepK (priv:Bool) (last p : Int × Int) (o:OrdT) : Int × Int:=if elig priv o = true∧keyLt last (o.rank,o.day)∧keyLt (o.rank,o.day) p then (o.rank,o.day) else p
def nextK (l:List OrdT) (priv:Bool) (last:Int × Int) : Int × Int:=l.foldl (stepK priv last) (10,0)
def inGrp (k:Int × Int) (o:OrdT) : Bool:=decide (o.rank = k.1) && decide (o.day = k.2)
def clmG (l:List OrdT) (k:Int × Int) : List Int:=(l.filter (inGrp k)).map claimN
def partsG (l:List OrdT) (k:Int × Int) (left:Int) : List Int:=if left < sumI (clmG l k) then allocN left (clmG l k) else clmG l k
def putO (out:List Elem) (o:OrdT) (p:Int) : List Elem:=if 0 < p then put out ⟨o.id,p⟩ else out
def putsG (out:List Elem) : List OrdT→List Int→List Elem
 | o :: r,p :: ps=>putsG (putO out o p) r ps
 | _,_=>out
def srv (l:List OrdT) (priv:Bool) : Nat→(Int × Int)→Int→List Elem→Int→List Elem × Int
 | 0,_,_,out,taken=>(out,taken)
 | n+1,last,left,out,taken =>
  if (nextK l priv last).1 = 10 then (out,taken)
  else srv l priv n (nextK l priv last) (left - sumI (partsG l (nextK l priv last) left)) (putsG out (l.filter (inGrp (nextK l priv last))) (partsG l (nextK l priv last) left)) (taken+sumI (partsG l (nextK l priv last) left))
def cntK (l:List OrdT) (priv:Bool) (last:Int × Int) : Nat:=(l.filter fun o=>elig priv o && decide (keyLt last (o.rank,o.day))).length
def serveN (out:List Elem) (l:List OrdT) (priv:Bool) (left:Int) : List Elem × Int:=srv l priv (cntK l priv (-1,-1)) (-1,-1) left out 0
def attachN (s:ShT) (net deps : Int) (l:List OrdT) : List Elem :=
 (serveN (serveN [] l true (net - lowN s net deps)).1 l false (max (net - protN s net deps - (serveN [] l true (net - lowN s net deps)).2) 0)).1
end Go.Proofs.YtlhkojcmcmkmaaaGreat
namespace Go.Proofs.YtlhkojcmcmkmaaaGreat
open Go.RowKit
theorem sorted_ext' {α:Type} {lt:α→α→Prop} (irr : ∀ x,¬ lt x x) (tr : ∀ x y z,lt x y→lt y z→lt x z) : ∀ {l m : List α},l.Pairwise lt→m.Pairwise lt→(∀ x,x ∈ l ↔ x ∈ m)→l = m
 | [],[],_,_,_=>rfl
 | [],b :: s,_,_,h=>by have:=(h b).2 (by simp); simp at this
 | a :: r,[],_,_,h=>by have:=(h a).1 (by simp); simp at this
 | a :: r,b :: s,h1,h2,h=>by
  obtain ⟨a1,a2⟩:=List.pairwise_cons.1 h1
  obtain ⟨b1,b2⟩:=List.pairwise_cons.1 h2
  have hab:a = b:=by
   rcases List.mem_cons.1 ((h a).1 (by simp)) with e | ha
   ·
    exact e
   ·
    rcases List.mem_cons.1 ((h b).2 (by simp)) with e | hb
    ·
     exact e.symm
    ·
     exact absurd (tr _ _ _ (a1 b hb) (b1 a ha)) (irr _)
  subst hab
  rw [sorted_ext' irr tr a2 b2 (fun p=>⟨fun hp=>by
   rcases List.mem_cons.1 ((h p).1 (by simp [hp])) with e | hp'
   ·
    subst e; exact absurd (a1 _ hp) (irr _)
   ·
    exact hp',fun hp=>by
   rcases List.mem_cons.1 ((h p).2 (by simp [hp])) with e | hp'
   ·
    subst e; exact absurd (b1 _ hp) (irr _)
   ·
    exact hp'⟩)]
def LtD (a b : DedT) : Prop:=a.rank < b.rank ∨ a.rank = b.rank∧a.code.data.toList < b.code.data.toList
theorem LtD.irr (x:DedT) : ¬ LtD x x:=by
 rintro (h | ⟨_,h⟩)
 ·
  omega
 ·
  exact List.lt_irrefl _ h
theorem LtD.tr (x y z : DedT) (h1:LtD x y) (h2:LtD y z) : LtD x z:=by
 rcases h1 with h1 | ⟨h1,g1⟩ <;> rcases h2 with h2 | ⟨h2,g2⟩
 ·
  exact .inl (by omega)
 ·
  exact .inl (by omega)
 ·
  exact .inl (by omega)
 ·
  exact .inr ⟨by omega,List.lt_trans g1 g2⟩
theorem mem_ordD {l:List DedT} (h : ∀ x ∈ l,DedOk x) (x:DedT) : x ∈ ordD l ↔ x ∈ l:=by
 unfold ordD
 simp only [List.mem_flatMap,List.mem_range,List.mem_filter,decide_eq_true_eq]
 constructor
 ·
  rintro ⟨r,_,h1,_⟩; exact h1
 ·
  intro hx
  have h0:=(h x hx).r0
  have h1:=(h x hx).r1
  exact ⟨x.rank.toNat,by omega,hx,by omega⟩
theorem ordD_sorted {l:List DedT} (h:l.Pairwise (fun a b=>Op.bytesLess a.code.toList b.code.toList = true)) : (ordD l).Pairwise LtD:=by
 unfold ordD
 rw [List.pairwise_flatMap]
 refine ⟨fun r _=>?_,?_⟩
 ·
  rw [List.pairwise_filter]
  refine h.imp ?_
  intro a b hab ha hb
  rw [less_eq,ByteArray.toList_eq,ByteArray.toList_eq] at hab
  simp only [decide_eq_true_eq] at ha hb hab
  exact .inr ⟨by omega,hab⟩
 ·
  refine (List.pairwise_lt_range (n:=100)).imp ?_
  intro r s hrs x hx y hy
  simp only [List.mem_filter,decide_eq_true_eq] at hx hy
  exact .inl (by omega)
theorem ordD_eq {l zs : List DedT} (hv:validD l = true) (hp:zs.Perm l) (hs:zs.Pairwise (fun a b=>¬ LtD b a)) : zs = ordD l:=by
 obtain ⟨_,hok,hasc⟩:=validD_iff.1 hv
 refine sorted_ext' LtD.irr LtD.tr ?_ (ordD_sorted hasc) (fun x=>by rw [mem_ordD hok,hp.mem_iff])
 have hne:l.Pairwise (fun a b=>a.code.data.toList ≠ b.code.data.toList):=hasc.imp (by
  intro a b hab e
  rw [less_eq,ByteArray.toList_eq,ByteArray.toList_eq,e] at hab
  exact List.lt_irrefl _ (of_decide_eq_true hab))
 have hne2:=hne.perm hp.symm (fun h e=>h e.symm)
 refine (hs.and hne2).imp ?_
 rintro a b ⟨hab,hn⟩
 rcases Int.lt_trichotomy a.rank b.rank with h | h | h
 ·
  exact .inl h
 ·
  refine .inr ⟨h,?_⟩
  apply Decidable.byContradiction
  intro hlt
  have h2:b.code.data.toList≤a.code.data.toList:=List.not_lt.1 hlt
  have h3:¬ b.code.data.toList < a.code.data.toList:=fun hh=>hab (.inr ⟨h.symm,hh⟩)
  exact hn (List.le_antisymm (List.not_lt.1 h3) h2)
 ·
  exact absurd (.inl h) hab
theorem ordD_code {l:List DedT} (hv:validD l = true) : (ordD l).Pairwise (fun a b=>a.code ≠ b.code):=by
 obtain ⟨_,hok,hasc⟩:=validD_iff.1 hv
 refine List.Pairwise.imp_of_mem ?_ (ordD_sorted hasc)
 intro a b ha hb hab he
 have ha':=(mem_ordD hok a).1 ha
 have hb':=(mem_ordD hok b).1 hb
 have hne:a ≠ b:=fun e=>LtD.irr a (by subst e; exact hab)
 obtain ⟨i,hi,rfl⟩:=List.mem_iff_getElem.1 ha'
 obtain ⟨j,hj,rfl⟩:=List.mem_iff_getElem.1 hb'
 have hij:i ≠ j:=fun e=>hne (by subst e; rfl)
 have P:=List.pairwise_iff_getElem.1 hasc
 rcases Nat.lt_or_gt_of_ne hij with h | h
 ·
  have:=P i j hi hj h
  rw [he,less_eq] at this
  exact List.lt_irrefl _ (of_decide_eq_true this)
 ·
  have:=P j i hj hi h
  rw [he,less_eq] at this
  exact List.lt_irrefl _ (of_decide_eq_true this)
section
variable {before:Bool} {base:Int} {year:List Elem}
theorem tk_append (P Q : List DedT) : ∀ a,tk before base year (P++Q) a = tk before base year P a++tk before base year Q (rst before base year P a):=by
 induction P with
 | nil=>intro a; rfl
 | cons d r ih=>intro a; simp only [List.cons_append,tk,rst,ih,List.append_assoc]
theorem rst_append (P Q : List DedT) : ∀ a,rst before base year (P++Q) a = rst before base year Q (rst before base year P a):=by
 induction P with
 | nil=>intro a; rfl
 | cons d r ih=>intro a; simp only [List.cons_append,rst,ih]
theorem tk_length (P:List DedT) : ∀ a,(tk before base year P a).length≤P.length:=by
 induction P with
 | nil=>intro a; simp [tk]
 | cons d r ih =>
  intro a
  simp only [tk,List.length_append,List.length_cons]
  have:=ih (a - amtT before base year d a)
  split <;> simp <;> omega
theorem amtT_bd {d:DedT} {left:Int} (h:DedOk d) (h1:0≤base) (h2:base≤1000000000) (hl:0≤left) : 0≤amtT before base year d left∧amtT before base year d left≤left∧amtT before base year d left≤1000000000:=by
 have:=wantN_bd (taken:=atE year d.code) h h1 h2
 unfold amtT
 split <;> omega
theorem rst_bd {P:List DedT} (hP : ∀ x ∈ P,DedOk x) (h1:0≤base) (h2:base≤1000000000) : ∀ a,0≤a→0≤rst before base year P a∧rst before base year P a≤a:=by
 induction P with
 | nil=>intro a ha; exact ⟨ha,Int.le_refl _⟩
 | cons d r ih =>
  intro a ha
  have hb:=amtT_bd (before:=before) (year:=year) (left:=a) (hP d (by simp)) h1 h2 ha
  have:=ih (fun x hx=>hP x (by simp [hx])) (a - amtT before base year d a) (by omega)
  simp only [rst]
  omega
theorem tk_mem {P:List DedT} (hP : ∀ x ∈ P,DedOk x) (h1:0≤base) (h2:base≤1000000000) : ∀ a,0≤a→∀ x ∈ tk before base year P a,(∃ d ∈ P,x.code = d.code)∧0 < x.amount∧x.amount≤a∧x.amount≤1000000000:=by
 induction P with
 | nil=>intro a ha x hx; simp [tk] at hx
 | cons d r ih =>
  intro a ha x hx
  have hb:=amtT_bd (before:=before) (year:=year) (left:=a) (hP d (by simp)) h1 h2 ha
  simp only [tk,List.mem_append] at hx
  rcases hx with hx | hx
  ·
   split at hx
   ·
    rename_i hpos
    simp at hx
    subst hx
    exact ⟨⟨d,by simp,rfl⟩,hpos,hb.2.1,hb.2.2⟩
   ·
    simp at hx
  ·
   obtain ⟨⟨e,he,hc⟩,g1,g2,g3⟩:=ih (fun x hx=>hP x (by simp [hx])) _ (by omega) x hx
   exact ⟨⟨e,by simp [he],hc⟩,g1,by omega,g3⟩
theorem tk_code {P:List DedT} (hP:P.Pairwise (fun a b=>a.code ≠ b.code)) : ∀ a,(tk before base year P a).Pairwise (fun a b=>a.code ≠ b.code):=by
 have hmem:∀ (P:List DedT) a x,x ∈ tk before base year P a→∃ d ∈ P,x.code = d.code:=by
  intro P
  induction P with
  | nil=>intro a x hx; simp [tk] at hx
  | cons d r ih =>
   intro a x hx
   simp only [tk,List.mem_append] at hx
   rcases hx with hx | hx
   ·
    split at hx
    ·
     simp at hx; subst hx; exact ⟨d,by simp,rfl⟩
    ·
     simp at hx
   ·
    obtain ⟨e,he,hc⟩:=ih _ x hx
    exact ⟨e,by simp [he],hc⟩
 induction P with
 | nil=>intro a; exact List.Pairwise.nil
 | cons d r ih =>
  intro a
  obtain ⟨h1,h2⟩:=List.pairwise_cons.1 hP
  simp only [tk]
  rw [List.pairwise_append]
  refine ⟨by split <;> simp,ih h2 _,fun x hx y hy=>?_⟩
  split at hx
  ·
   simp at hx
   subst hx
   obtain ⟨e,he,hc⟩:=hmem r _ y hy
   rw [hc]
   exact h1 e he
  ·
   simp at hx
theorem sumE_tk (P:List DedT) (hP : ∀ x ∈ P,DedOk x) (h1:0≤base) (h2:base≤1000000000) : ∀ a,0≤a→sumE (tk before base year P a) = a - rst before base year P a:=by
 induction P with
 | nil=>intro a _; simp [tk,rst,sumE]
 | cons d r ih =>
  intro a ha
  have hb:=amtT_bd (before:=before) (year:=year) (left:=a) (hP d (by simp)) h1 h2 ha
  simp only [tk,rst,sumE_append,ih (fun x hx=>hP x (by simp [hx])) _ (show 0≤a - amtT before base year d a by omega)]
  split
  ·
   simp only [sumE]; omega
  ·
   simp only [sumE]; omega
end
theorem sumE_put (l:List Elem) (e:Elem) : sumE (put l e) = sumE l+e.amount:=by
 induction l with
 | nil=>simp [put,sumE]
 | cons a l ih =>
  rw [put]
  split
  ·
   simp only [sumE,ih]; omega
  ·
   split
   ·
    simp only [sumE]; omega
   ·
    simp only [sumE]; omega
theorem sumE_foldl (l:List Elem) : ∀ acc,sumE (l.foldl put acc) = sumE acc+sumE l:=by
 induction l with
 | nil=>intro acc; simp [sumE]
 | cons a l ih=>intro acc; rw [List.foldl_cons,ih,sumE_put]; simp only [sumE]; omega
theorem sumE_sumsP (l:List Elem) : sumE (sumsP l) = sumE l:=by
 have:=sumE_foldl l []
 simpa [sumsP,sumE] using this
theorem sumE_nz (l:List Elem) : sumE (l.filter nz) = sumE l:=by
 induction l with
 | nil=>rfl
 | cons a l ih =>
  rw [List.filter_cons]
  split
  ·
   simp only [sumE,ih]
  ·
   rename_i h
   have:a.amount = 0:=by simpa [nz] using h
   simp only [sumE,ih]; omega
theorem totE_perm {l m : List Elem} (h:l.Perm m) (c:List UInt8) : totE l c = totE m c:=by
 induction h with
 | nil=>rfl
 | cons a _ ih=>simp only [totE,ih]
 | swap a b l=>simp only [totE]; omega
 | trans _ _ h1 h2=>rw [h1,h2]
theorem keyE_perm {l m : List Elem} (h:l.Perm m) (c:List UInt8) : keyE l c = keyE m c:=by
 rw [Bool.eq_iff_iff]
 simp only [keyE,List.any_eq_true]
 exact ⟨fun ⟨x,hx,e⟩=>⟨x,h.mem_iff.1 hx,e⟩,fun ⟨x,hx,e⟩=>⟨x,h.mem_iff.2 hx,e⟩⟩
theorem sumsP_eq {ts zs : List Elem} (hp:zs.Perm ts) (hs:SortedE zs) : zs = sumsP ts :=
 sorted_ext hs (sumsP_sorted ts) (fun x=>by rw [mem_sorted hs,mem_sorted (sumsP_sorted ts),sumsP_key,sumsP_tot,totE_perm hp,keyE_perm hp])
end Go.Proofs.YtlhkojcmcmkmaaaGreat
