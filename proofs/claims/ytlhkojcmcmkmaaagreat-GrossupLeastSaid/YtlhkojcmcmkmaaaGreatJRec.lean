/- Joined texts: Rec Line NetC Line2 NetL R31 R31b. Conditions: as stated. -/
import Derived.Below
import Derived.Deep.Light
import Derived.Test.YtlhkojcmcmkmaaaGreatJData
import Derived.Test.YtlhkojcmcmkmaaaGreatJLeaf
import Derived.Test.YtlhkojcmcmkmaaaGreatJElem
import Derived.Test.YtlhkojcmcmkmaaaGreatJNetP
import Derived.Test.YtlhkojcmcmkmaaaGreatJR30b
namespace Go.Proofs.YtlhkojcmcmkmaaaGreat
structure Rec (α κ : Type) where
 key:α→κ
 amt:α→Int
 set:α→Int→α
 lt:κ→κ→Bool
structure Rec.Law {α κ : Type} (R:Rec α κ) : Prop where
 key_set:∀ x n,R.key (R.set x n) = R.key x
 amt_set:∀ x n,R.amt (R.set x n) = n
 ext:∀ x y,R.key x = R.key y→R.amt x = R.amt y→x = y
 irrefl:∀ a,R.lt a a = false
 trans:∀ a b c,R.lt a b = true→R.lt b c = true→R.lt a c = true
 total:∀ a b,R.lt a b = false→R.lt b a = false→a = b
section
variable {α κ:Type} [DecidableEq κ] (R:Rec α κ)
def Rec.put : List α→α→List α
 | [],e=>[e]
 | a :: l,e=>if R.lt (R.key a) (R.key e) then a :: Rec.put l e else if R.key a = R.key e then R.set e (R.amt e+R.amt a) :: l else e :: a :: l
def Rec.Sorted (l:List α) : Prop:=l.Pairwise (fun a b=>R.lt (R.key a) (R.key b) = true)
def Rec.Bdd (B:Int) (l:List α) : Prop:=∀ x ∈ l,-B≤R.amt x∧R.amt x≤B
variable {R}
end
section
variable {α κ:Type} {R:Rec α κ}
end
section
variable {α κ:Type} [DecidableEq κ] {R:Rec α κ}
end
section
variable {α κ:Type} {R:Rec α κ}
end
section
variable {α κ:Type} [DecidableEq κ] {R:Rec α κ}
theorem Rec.Bdd.put (L:R.Law) {B C : Int} {l:List α} {e:α} (h:R.Bdd B l) (hB:0≤B) (hC:0≤C) (h1 : -C≤R.amt e) (h2:R.amt e≤C) : R.Bdd (B+C) (R.put l e):=by
 induction l with
 | nil=>intro x hx; simp [Rec.put] at hx; subst hx; omega
 | cons a l ih =>
  have ha:=h a (by simp)
  have hl:R.Bdd B l:=fun x hx=>h x (by simp [hx])
  intro x hx
  rw [Rec.put] at hx
  split at hx
  ·
   rcases List.mem_cons.1 hx with rfl | hx
   ·
    omega
   ·
    exact ih hl x hx
  ·
   split at hx
   ·
    rcases List.mem_cons.1 hx with rfl | hx
    ·
     rw [L.amt_set]; omega
    ·
     have:=hl x hx; omega
   ·
    rcases List.mem_cons.1 hx with rfl | hx
    ·
     omega
    ·
     have:=h x hx; omega
end
end Go.Proofs.YtlhkojcmcmkmaaaGreat
namespace Go.Proofs.YtlhkojcmcmkmaaaGreat
open Go.RowKit
structure LineT where
 kind:Int
 code:ByteArray
 amount:Int
deriving DecidableEq
def encL (x:LineT) : List Value:=[.int .i64 x.kind,.string x.code,.int .i64 x.amount]
theorem encL_len (x:LineT) : (encL x).length = 3:=rfl
theorem encL_one (x:LineT) : ∀ u ∈ encL x,u.oneCell' = true:=by intro u hu; simp [encL] at hu; rcases hu with rfl | rfl | rfl <;> rfl
theorem infoL : (Tryz.prog.info? 30).map (fun i=>(i.zero,i.size,i.bytes)) = some (some (.agg #[.int .i64 0,.string ⟨#[]⟩,.int .i64 0]),3,32):=by kernel_rfl
def bareB (k:Int) : Bool:=k == 6 || k == 9 || k == 10
def codeB (x:LineT) : Bool:=if bareB x.kind then decide (x.code.size = 0) else nameB x.code
def formB (x:LineT) : Bool:=decide (1≤x.kind) && decide (x.kind≤10) && maxN x.amount && codeB x
def ltL (a b : Int × List UInt8) : Bool:=decide (a.1 < b.1) || (decide (a.1 = b.1) && decide (a.2 < b.2))
def RL : Rec LineT (Int × List UInt8):=⟨fun x=>(x.kind,x.code.data.toList),(·.amount),fun x n=>⟨x.kind,x.code,n⟩,ltL⟩
theorem ba_ext {a b : ByteArray} (h:a.data.toList = b.data.toList) : a = b:=by
 obtain ⟨⟨l⟩⟩:=a
 obtain ⟨⟨m⟩⟩:=b
 simp at h
 rw [h]
theorem RL_law : RL.Law where
 key_set _ _:=rfl
 amt_set _ _:=rfl
 ext x y h1 h2:=by
  obtain ⟨a,b,c⟩:=x
  obtain ⟨a',b',c'⟩:=y
  simp only [RL,Prod.mk.injEq] at h1 h2
  obtain ⟨rfl,h1⟩:=h1
  rw [ba_ext h1,h2]
 irrefl a:=by simp [RL,ltL,List.lt_irrefl]
 trans a b c h1 h2:=by
  simp only [RL,ltL,Bool.or_eq_true,Bool.and_eq_true,decide_eq_true_eq] at *
  rcases h1 with h1 | ⟨h1,h3⟩
  ·
   rcases h2 with h2 | ⟨h2,h4⟩
   ·
    left; omega
   ·
    left; omega
  ·
   rcases h2 with h2 | ⟨h2,h4⟩
   ·
    left; omega
   ·
    exact .inr ⟨by omega,List.lt_trans h3 h4⟩
 total a b h1 h2:=by
  simp only [RL,ltL,Bool.or_eq_false_iff,Bool.and_eq_false_iff,decide_eq_false_iff_not] at *
  have h3:a.1 = b.1:=by omega
  have h4:¬ a.2 < b.2:=h1.2.resolve_left (fun h=>h h3)
  have h5:¬ b.2 < a.2:=h2.2.resolve_left (fun h=>h h3.symm)
  exact Prod.ext h3 (List.le_antisymm (List.not_lt.1 h5) (List.not_lt.1 h4))
end Go.Proofs.YtlhkojcmcmkmaaaGreat
namespace Go.Proofs.YtlhkojcmcmkmaaaGreat
open Go.RowKit
structure RulesT where
 wages:List WageT
 schemes:List SchT
 tar:TarT
 count:Int
 sh:ShT
 recover:Int
structure PersonT where
 deps:Int
 deds:List DedT
 orders:List OrdT
 others:List (List Int × Int)
structure YearT where
 periods:Int
 income:Int
 withheld:Int
 insured:List Int
 taken:List Elem
structure NetIn where
 r:RulesT
 p:PersonT
 y:YearT
 kept:List Elem
 first:Bool
 e:List Elem
def linesK (kind:Int) (l:List Elem) : List LineT:=(l.filter nz).map fun x=>⟨kind,x.code,x.amount⟩
def earnB (ws:List WageT) (x:Elem) : Bool:=decide (((findW ws x.code).getD zeroW).kind = 1)
namespace NetIn
variable (I:NetIn)
def b : BasesT:=sumB I.r.wages (sumsP I.e)
def merged : List Elem:=(sumsP I.e).filter nz
def earn : List Elem:=I.merged.filter (earnB I.r.wages)
def bene : List Elem:=I.merged.filter fun x=>!earnB I.r.wages x
def base : Int:=max I.b.c 0
def before : List Elem:=takeR I.p.deds true I.base (max I.b.c 0) I.y.taken
def left1 : Int:=I.b.c - sumE I.before
def insured : Int:=max I.b.i 0
def jobs : List (List Int × Int):=(I.y.insured,I.insured) :: I.p.others
def levyOf (s:SchT) : LevyT:=(jointR s I.y.insured.length I.jobs).getD 0 zLv
def overs : Bool:=I.r.schemes.any fun s=>overJ (jointV s I.y.insured.length I.jobs)
def ownTo (l:List SchT) : List Elem:=l.map fun s=>⟨s.code,(I.levyOf s).employee⟩
def emplTo (l:List SchT) : List Elem:=l.map fun s=>⟨s.code,(I.levyOf s).employer⟩
def leviesTo (l:List SchT) : Int:=sumI (l.map fun s=>(I.levyOf s).employee)
def reliefTo (l:List SchT) : Int:=sumI (l.map fun s=>if s.deductible then (I.levyOf s).employee else 0)
def levies : Int:=I.leviesTo I.r.schemes
def income : Int:=max (I.b.t - sumE I.before - I.reliefTo I.r.schemes) 0
def left2 : Int:=I.left1 - I.levies
def tax : Int:=withN I.r.tar I.r.count I.y.periods I.y.income I.y.withheld I.income
def left3 : Int:=I.left2 - I.tax
def net : Int:=max (I.left3 - max (I.b.c - I.b.a) 0) 0
def attached : List Elem:=if I.first then attachN I.r.sh I.net I.p.deps I.p.orders else I.kept
def left4 : Int:=I.left3 - sumE I.attached
def taken1 : List Elem:=addR I.y.taken I.before
def after : List Elem:=takeR I.p.deds false I.base (max I.left4 0) I.taken1
def left5 : Int:=I.left4 - sumE I.after
def taken2 : List Elem:=addR I.taken1 I.after
def legal : Int:=I.b.c - I.levies - I.tax
def lines : List LineT:=linesK 1 I.earn++linesK 2 I.bene++linesK 3 I.before++linesK 4 (I.ownTo I.r.schemes)++linesK 5 (I.emplTo I.r.schemes)++linesK 6 [⟨⟨#[]⟩,I.tax⟩]++linesK 7 I.attached++linesK 8 I.after++linesK 9 [⟨⟨#[]⟩,max I.left5 0⟩]++linesK 10 [⟨⟨#[]⟩,max (-I.left5) 0⟩]
def next : YearT:=⟨I.y.periods+1,I.y.income+I.income,I.y.withheld+I.tax,I.y.insured++[I.insured],I.taken2⟩
def err : Int :=
 if I.r.count≤I.y.periods then 3
 else if ofErr I.r.wages I.e (sumsP I.e) ≠ 0 then ofErr I.r.wages I.e (sumsP I.e)
 else if takeE I.p.deds I.base (max I.b.c 0) I.y.taken ≠ 0 then takeE I.p.deds I.base (max I.b.c 0) I.y.taken
 else if I.overs = true then 4
 else if amtB I.tax = false then 4
 else if I.first = true∧1000000000 < I.net then 2
 else if addE I.y.taken I.before ≠ 0 then addE I.y.taken I.before
 else if takeE I.p.deds I.base (max I.left4 0) I.taken1 ≠ 0 then takeE I.p.deds I.base (max I.left4 0) I.taken1
 else addE I.taken1 I.after
end NetIn
structure RulesOk (r:RulesT) : Prop where
 wages:validB r.wages = true
 nsch:r.schemes.length≤12
 sch:∀ s ∈ r.schemes,SchOk s
 asc:r.schemes.Pairwise (fun a b=>Op.bytesLess a.code.toList b.code.toList = true)
 tar:TarOk r.tar
 c0:1≤r.count
 c1:r.count≤53
 sh:ShOk r.sh
 v0:0≤r.recover
 v1:r.recover≤1000000
structure PersonOk (p:PersonT) : Prop where
 d0:0≤p.deps
 d1:p.deps≤20
 deds:validD p.deds = true
 orders:OrdsOk p.orders
 nothers:p.others.length≤7
 base:∀ e ∈ p.others,0≤e.2∧e.2≤1000000000
 lens:∀ e ∈ p.others,e.1.length≤53
 earlier:∀ e ∈ p.others,∀ x ∈ e.1,0≤x∧x≤1000000000
structure YearOk (y:YearT) : Prop where
 p0:0≤y.periods
 p1:y.periods≤53
 len:(y.insured.length:Int) = y.periods
 ins:∀ x ∈ y.insured,0≤x∧x≤1000000000
 i0:0≤y.income
 i1:y.income≤y.periods * 1000000000
 w0 : -(y.periods * 1000000000)≤y.withheld
 w1:y.withheld≤y.periods * 1000000000
 taken:recB y.taken = true
structure KeptOk (k:List Elem) : Prop where
 recd:recB k = true
 len:k.length≤16
 hi:∀ x ∈ k,x.amount≤1000000000
structure InOk (I:NetIn) : Prop where
 r:RulesOk I.r
 p:PersonOk I.p
 y:YearOk I.y
 kept:KeptOk I.kept
 same:∀ e ∈ I.p.others,(e.1.length:Int) = I.y.periods
 size:∀ x ∈ I.e,x.code.size≤maxLen
end Go.Proofs.YtlhkojcmcmkmaaaGreat
namespace Go.Proofs.YtlhkojcmcmkmaaaGreat
open Go.RowKit
def lessL (x y : LineT) : Bool:=RL.lt (RL.key x) (RL.key y)
theorem less_eqL : ∀ (x y : List UInt8),Op.bytesLess x y = decide (x < y)
 | [],[]=>by simp [Op.bytesLess]
 | _ :: _,[]=>by simp [Op.bytesLess]
 | [],_ :: _=>by simp [Op.bytesLess]
 | a :: x,b :: y=>by
  rw [Op.bytesLess,less_eqL x y]
  simp only [List.cons_lt_cons_iff]
  by_cases h1:a < b <;> by_cases h2:a = b <;> by_cases h3:x < y <;> simp [h1,h2,h3]
theorem lessL_eq (x y : LineT) : lessL x y = (decide (x.kind < y.kind) || (decide (x.kind = y.kind) && Op.bytesLess x.code.toList y.code.toList)):=by
 rw [less_eqL,ByteArray.toList_eq,ByteArray.toList_eq]; rfl
def formZ (x:LineT) : Bool:=formB x && (x.amount != 0)
end Go.Proofs.YtlhkojcmcmkmaaaGreat
namespace Go.Proofs.YtlhkojcmcmkmaaaGreat
open Go.RowKit
theorem nodup_le {α:Type} [DecidableEq α] : ∀ {l m : List α},l.Pairwise (· ≠ ·)→(∀ x ∈ l,x ∈ m)→l.length≤m.length
 | [],m,_,_=>by simp
 | a :: l,m,h,hs=>by
  obtain ⟨h1,h2⟩:=List.pairwise_cons.1 h
  have hm:=hs a (by simp)
  have h3:=nodup_le (m:=m.erase a) h2 (fun x hx=>(List.mem_erase_of_ne (fun e=>h1 x hx e.symm)).2 (hs x (by simp [hx])))
  rw [List.length_erase_of_mem hm] at h3
  have:=List.length_pos_of_mem hm
  simp only [List.length_cons]
  omega
theorem takeE_inv {l:List DedT} {base avail : Int} {year:List Elem} (h:takeE l base avail year = 0) : validD l = true∧recB year = true∧(0≤base∧base≤1000000000)∧0≤avail∧avail≤1000000000:=by
 unfold takeE at h
 split at h
 ·
  cases h
 ·
  split at h
  ·
   cases h
  ·
   split at h
   ·
    cases h
   ·
    split at h
    ·
     cases h
    ·
     rename_i a b c d
     exact ⟨by simpa using a,by simpa using b,inB_iff.1 (by simpa using c),inB_iff.1 (by simpa using d)⟩
theorem name_size {c:ByteArray} (h:nameB c = true) : c.size≤24:=by
 simp only [nameB,Bool.and_eq_true,decide_eq_true_eq] at h
 exact h.1.1.2
theorem name_max {c:ByteArray} (h:nameB c = true) : c.size≤maxLen:=Nat.le_trans (name_size h) (by unfold maxLen; omega)
theorem take_facts {l:List DedT} {before:Bool} {base avail : Int} {year:List Elem} (h:takeE l base avail year = 0) :
  SortedE (takeR l before base avail year)∧(∀ x ∈ takeR l before base avail year,nameB x.code = true∧0≤x.amount∧x.amount≤1000000000)∧0≤sumE (takeR l before base avail year)∧sumE (takeR l before base avail year)≤avail∧(takeR l before base avail year).length≤16:=by
 obtain ⟨hv,hr,⟨b0,b1⟩,a0,a1⟩:=takeE_inv h
 obtain ⟨hl,hok,hasc⟩:=validD_iff.1 hv
 have hok':∀ x ∈ ordD l,DedOk x:=fun x hx=>hok x ((mem_ordD hok x).1 hx)
 rw [takeR_ok h]
 have hm:=tk_mem (before:=before) (year:=year) hok' b0 b1 avail a0
 have hs:=sumE_tk (before:=before) (year:=year) (ordD l) hok' b0 b1 avail a0
 have hr2:=rst_bd (before:=before) (year:=year) hok' b0 b1 avail a0
 have hpos:∀ x ∈ tk before base year (ordD l) avail,0≤x.amount:=fun x hx=>by have:=(hm x hx).2.1; omega
 refine ⟨sumsP_sorted _,fun x hx=>?_,?_,?_,?_⟩
 ·
  obtain ⟨y,hy,e⟩:=sumsP_codes hx
  obtain ⟨⟨d,hd,hc⟩,_⟩:=hm y hy
  have h1:=sumsP_le hpos hx
  exact ⟨by rw [← e,hc]; exact (hok' d hd).name,h1.1,by omega⟩
 ·
  rw [sumE_sumsP,hs]; omega
 ·
  rw [sumE_sumsP,hs]; omega
 ·
  refine Nat.le_trans (taken_len _ _ _ _ _) ?_
  have hp:(ordD l).Nodup:=(ordD_sorted hasc).imp (fun {a b} hab e=>by subst e; exact LtD.irr _ hab)
  have:(ordD l).length≤l.length:=nodup_le hp (fun x hx=>(mem_ordD hok x).1 hx)
  omega
theorem sortedE_putO {out:List Elem} (h:SortedE out) (o:OrdT) (p:Int) : SortedE (putO out o p):=by
 unfold putO; split
 ·
  exact sorted_put h _
 ·
  exact h
theorem sortedE_puts : ∀ (os:List OrdT) (ps:List Int) {out:List Elem},SortedE out→SortedE (putsG out os ps)
 | [],ps,out,h=>by cases ps <;> exact h
 | o :: r,[],out,h=>h
 | o :: r,p :: ps,out,h=>by rw [putsG]; exact sortedE_puts r ps (sortedE_putO h o p)
structure SrvOk (l:List OrdT) (left:Int) (out:List Elem) (taken:Int) (R:List Elem × Int) : Prop where
 pos:∀ x ∈ R.1,0≤x.amount
 code:∀ x ∈ R.1,∃ o ∈ l,x.code = o.id
 sorted:SortedE R.1
 sum:sumE R.1 - sumE out = R.2 - taken
 lo:taken≤R.2
 hi:R.2 - taken≤left
theorem srv_facts {l:List OrdT} {priv:Bool} (hok : ∀ o ∈ l,OrdOk o) : ∀ (n:Nat) (last:Int × Int) (left:Int) (out:List Elem) (taken:Int),0≤left→(∀ x ∈ out,0≤x.amount)→(∀ x ∈ out,∃ o ∈ l,x.code = o.id)→SortedE out→SrvOk l left out taken (srv l priv n last left out taken):=by
 intro n
 induction n with
 | zero=>intro last left out taken h1 h2 h3 h4; exact ⟨h2,h3,h4,by simp [srv],by simp [srv],by simp [srv]; exact h1⟩
 | succ n ih =>
  intro last left out taken h1 h2 h3 h4
  rw [srv]
  split
  ·
   exact ⟨h2,h3,h4,by simp,by simp,by simp; exact h1⟩
  ·
   obtain ⟨p1,p2,p3⟩:=parts_bd (k:=nextK l priv last) hok h1
   have hA:AtOk l out.length out:=⟨h2,h3,Nat.le_refl _⟩
   have hB:=AtOk.puts (l.filter (inGrp (nextK l priv last))) (partsG l (nextK l priv last) left) hA (fun o ho=>mem_flt ho)
   have I:=ih (nextK l priv last) (left - sumI (partsG l (nextK l priv last) left)) _ (taken+sumI (partsG l (nextK l priv last) left)) (by omega) hB.pos hB.code (sortedE_puts _ _ h4)
   have hs:=sumE_putsG (l.filter (inGrp (nextK l priv last))) (partsG l (nextK l priv last) left) out (parts_len _ _ _).symm p1
   refine ⟨I.pos,I.code,I.sorted,?_,?_,?_⟩
   ·
    have:=I.sum; rw [hs] at this; omega
   ·
    have:=I.lo; omega
   ·
    have:=I.hi; omega
theorem prot_bd {s:ShT} {net deps : Int} (h:ShOk s) (hn:0≤net) (hn1:net≤1000000000) (hd:0≤deps) (hd1:deps≤20) :
  (0≤protP s deps∧protP s deps≤21000000000)∧(0≤protN s net deps∧protN s net deps≤net)∧(0≤lowN s net deps∧lowN s net deps≤net)∧(0≤s.dependent * deps∧s.dependent * deps≤20000000000):=by
 have h1:0≤s.dependent * deps:=Int.mul_nonneg h.d0 hd
 have h2:s.dependent * deps≤1000000000 * 20:=Int.mul_le_mul h.d1 hd1 hd (by omega)
 have f0:=h.f0
 have f1:=h.f1
 have l0:=h.l0
 have hp:0≤protP s deps∧protP s deps≤21000000000:=by unfold protP; omega
 refine ⟨hp,?_,by unfold lowN; omega,by omega⟩
 unfold protN
 split
 ·
  omega
 ·
  rename_i hlt
  have e0:0≤min net (max s.top (protP s deps)) - protP s deps:=by omega
  obtain ⟨_,a2,a3,_⟩:=part_ok (unit:=1) (mode:=3) e0 (by omega) h.s0 h.s1 (by omega) (by omega) (by omega) (by omega)
  have:=rate_part (min net (max s.top (protP s deps)) - protP s deps) s.share 3 e0 (by omega) h.s0 h.s1 (by decide)
  omega
structure AttOk (net:Int) (l:List OrdT) (R:List Elem) : Prop where
 pos:∀ x ∈ R,0≤x.amount
 hi:∀ x ∈ R,x.amount≤net
 name:∀ x ∈ R,nameB x.code = true
 code:∀ x ∈ R,∃ o ∈ l,x.code = o.id
 sorted:SortedE R
 lo:0≤sumE R
 sum:sumE R≤net
theorem sumE_mem {l:List Elem} (h : ∀ x ∈ l,0≤x.amount) : 0≤sumE l∧∀ x ∈ l,x.amount≤sumE l:=by
 induction l with
 | nil=>exact ⟨by simp [sumE],by simp⟩
 | cons a l ih =>
  obtain ⟨i1,i2⟩:=ih (fun x hx=>h x (by simp [hx]))
  have ha:=h a (by simp)
  refine ⟨by simp only [sumE]; omega,fun x hx=>?_⟩
  simp only [sumE]
  rcases List.mem_cons.1 hx with e | e
  ·
   subst e; omega
  ·
   have:=i2 x e; omega
theorem attach_facts {s:ShT} {net deps : Int} {l:List OrdT} (h:ShOk s) (hl:OrdsOk l) (hn:0≤net) (hn1:net≤1000000000) (hd:0≤deps) (hd1:deps≤20) :
  AttOk net l (attachN s net deps l)∧SrvOk l (net - lowN s net deps) [] 0 (serveN [] l true (net - lowN s net deps)):=by
 obtain ⟨_,⟨p0,p1⟩,⟨w0,w1⟩,_⟩:=prot_bd h hn hn1 hd hd1
 have I:=srv_facts (priv:=true) hl.ok (cntK l true (-1,-1)) (-1,-1) (net - lowN s net deps) [] 0 (by omega) (by simp) (by simp) List.Pairwise.nil
 have J:=srv_facts (priv:=false) hl.ok (cntK l false (-1,-1)) (-1,-1) (max (net - protN s net deps - (serveN [] l true (net - lowN s net deps)).2) 0) (serveN [] l true (net - lowN s net deps)).1 0 (by omega) I.pos I.code I.sorted
 refine ⟨?_,I⟩
 have i1:=I.sum
 have i2:=I.lo
 have i3:=I.hi
 have j1:=J.sum
 have j2:=J.lo
 have j3:=J.hi
 have e:attachN s net deps l = (serveN (serveN [] l true (net - lowN s net deps)).1 l false (max (net - protN s net deps - (serveN [] l true (net - lowN s net deps)).2) 0)).1:=rfl
 rw [e]
 simp only [sumE] at i1
 have hs:sumE (serveN (serveN [] l true (net - lowN s net deps)).1 l false (max (net - protN s net deps - (serveN [] l true (net - lowN s net deps)).2) 0)).1≤net:=by
  have e1:(serveN [] l true (net - lowN s net deps)) = srv l true (cntK l true (-1,-1)) (-1,-1) (net - lowN s net deps) [] 0:=rfl
  have e2:(serveN (serveN [] l true (net - lowN s net deps)).1 l false (max (net - protN s net deps - (serveN [] l true (net - lowN s net deps)).2) 0)) = srv l false (cntK l false (-1,-1)) (-1,-1) (max (net - protN s net deps - (serveN [] l true (net - lowN s net deps)).2) 0) (serveN [] l true (net - lowN s net deps)).1 0:=rfl
  rw [e2]
  rw [e1] at j1 j3 ⊢
  omega
 obtain ⟨m0,m1⟩:=sumE_mem J.pos
 refine ⟨J.pos,fun x hx=>?_,fun x hx=>?_,J.code,J.sorted,m0,hs⟩
 ·
  have:=m1 x hx
  have e2:(serveN (serveN [] l true (net - lowN s net deps)).1 l false (max (net - protN s net deps - (serveN [] l true (net - lowN s net deps)).2) 0)) = srv l false (cntK l false (-1,-1)) (-1,-1) (max (net - protN s net deps - (serveN [] l true (net - lowN s net deps)).2) 0) (serveN [] l true (net - lowN s net deps)).1 0:=rfl
  rw [e2] at hs
  omega
 ·
  obtain ⟨o,ho,e⟩:=J.code x hx
  rw [e]; exact (hl.ok o ho).name
theorem addL_len (a b : List Int) : (addL a b).length = min a.length b.length:=by simp [addL]
theorem sumsJ_facts {n:Nat} (es:List (List Int × Int)) (hl : ∀ e ∈ es,e.1.length = n) (hb : ∀ e ∈ es,0≤e.2) (he : ∀ e ∈ es,∀ x ∈ e.1,0≤x) : ∀ acc : List Int,acc.length = n+1→(∀ x ∈ acc,0≤x) →
  (es.foldl (fun acc e=>addL acc (e.1++[e.2])) acc).length = n+1∧∀ x ∈ es.foldl (fun acc e=>addL acc (e.1++[e.2])) acc,0≤x:=by
 induction es with
 | nil=>intro acc h1 h2; exact ⟨h1,h2⟩
 | cons e es ih =>
  intro acc h1 h2
  have e1:=hl e (by simp)
  refine ih (fun x hx=>hl x (by simp [hx])) (fun x hx=>hb x (by simp [hx])) (fun x hx=>he x (by simp [hx])) _ (by rw [addL_len]; simp; omega) (fun x hx=>?_)
  unfold addL at hx
  obtain ⟨i,hi,rfl⟩:=List.mem_iff_getElem.1 hx
  rw [List.getElem_zipWith]
  simp only [List.length_zipWith,List.length_append,List.length_singleton] at hi
  have q1:=h2 _ (List.getElem_mem (show i < acc.length by omega))
  have q2 : 0 ≤ (e.1 ++ [e.2])[i]'(by simp; omega) := by
   have hm : (e.1 ++ [e.2])[i]'(by simp; omega) ∈ e.1 ++ [e.2] := List.getElem_mem _
   rcases List.mem_append.1 hm with h | h
   ·
    exact he e (by simp) _ h
   ·
    simp at h; rw [h]; exact hb e (by simp)
  omega
theorem sumsJ_len {n:Nat} {es:List (List Int × Int)} (h:EmpsOk n es) : (sumsJ n es).length = n+1∧∀ x ∈ sumsJ n es,0≤x :=
 sumsJ_facts es h.lens (fun e he=>(h.base e he).1) (fun e he x hx=>(h.earlier e he x hx).1) _ (by simp) (by intro x hx; rw [List.eq_of_mem_replicate hx]; omega)
theorem jointV_bd {s:SchT} {n:Nat} {es:List (List Int × Int)} (hs:SchOk s) (h:EmpsOk n es) :
  0≤(jointV s n es).base∧0≤(jointV s n es).employee∧0≤(jointV s n es).employer∧(jointV s n es).base≤54000000000∧(jointV s n es).employee≤54000000100∧(jointV s n es).employer≤54000000100:=by
 obtain ⟨h1,h2⟩:=sumsJ_len h
 have:=h.nn
 exact nextN_bd hs h2 (by omega) (by intro e; rw [e] at h1; simp at h1)
theorem bases_bd {n:Nat} {es:List (List Int × Int)} (h:EmpsOk n es) : ∀ x ∈ basesJ es,0≤x∧x≤1000000000:=by
 intro x hx
 obtain ⟨e,he,rfl⟩:=List.mem_map.1 hx
 exact h.base e he
theorem getD_le_sum {l:List Int} (h : ∀ x ∈ l,0≤x) (i:Nat) : l.getD i 0≤sumI l:=by
 rw [List.getD_eq_getElem?_getD]
 cases e:l[i]? with
 | none =>
  simp
  have:=sumI_bd (l:=l) (B:=sumI l) (fun x hx=>⟨h x hx,sumI_mem h hx⟩)
  omega
 | some v=>exact sumI_mem h (List.mem_of_getElem? e)
theorem divN_len (v:LevyT) (ws:List Int) : (divN v ws).length = ws.length:=by unfold divN; split <;> simp
theorem divN_bd {v:LevyT} {ws:List Int} (hw : ∀ x ∈ ws,0≤x∧x≤1000000000) (h0:0≤v.base) (h1:0≤v.employee) (h2:0≤v.employer) : ∀ x ∈ divN v ws,(0≤x.base∧x.base≤v.base)∧(0≤x.employee∧x.employee≤v.employee)∧(0≤x.employer∧x.employer≤v.employer):=by
 intro x hx
 unfold divN at hx
 split at hx
 ·
  rcases List.mem_or_eq_of_mem_set hx with e | e
  ·
   rw [List.eq_of_mem_replicate e]; simp only [zLv]; omega
  ·
   subst e; omega
 ·
  rename_i hne
  have hs:0 < sumI ws:=by have:=(sumI_bd hw).1; omega
  obtain ⟨i,_,rfl⟩:=List.mem_map.1 hx
  have key:∀ t:Int,0≤t→0≤(allocN t ws).getD i 0∧(allocN t ws).getD i 0≤t:=fun t ht=>by
   have hn:=allocN_nonneg ht (fun x hx=>(hw x hx).1) hs
   have:=getD_le_sum hn i
   rw [allocN_sum hs] at this
   exact ⟨getD_nonneg hn i,this⟩
  exact ⟨key _ h0,key _ h1,key _ h2⟩
theorem overJ_no {v:LevyT} (h:overJ v = false) : v.base≤1000000000∧v.employee≤1000000000∧v.employer≤1000000000:=by
 simp only [overJ,Bool.or_eq_false_iff,decide_eq_false_iff_not] at h
 omega
theorem jointR_bd {s:SchT} {n:Nat} {es:List (List Int × Int)} (hs:SchOk s) (h:EmpsOk n es) (ho:overJ (jointV s n es) = false) : ∀ x ∈ jointR s n es,(0≤x.employee∧x.employee≤1000000000)∧0≤x.employer∧x.employer≤1000000000:=by
 intro x hx
 obtain ⟨a,b,c,_⟩:=jointV_bd hs h
 obtain ⟨o1,o2,o3⟩:=overJ_no ho
 have:=divN_bd (bases_bd h) a b c x hx
 omega
section
variable {I:NetIn}
theorem InOk.emps (h:InOk I) (hp:I.y.periods < I.r.count) (hi:I.insured≤1000000000) : EmpsOk I.y.insured.length I.jobs:=by
 have e:=h.y.len
 have c1:=h.r.c1
 have n7:=h.p.nothers
 refine ⟨by simp [NetIn.jobs],by simp [NetIn.jobs]; omega,by omega,fun x hx=>?_,fun x hx=>?_,fun x hx=>?_⟩
 ·
  rcases List.mem_cons.1 hx with r | r
  ·
   subst r; rfl
  ·
   have:=h.same x r; omega
 ·
  rcases List.mem_cons.1 hx with r | r
  ·
   subst r; exact ⟨by show 0≤max _ _; omega,hi⟩
  ·
   exact h.p.base x r
 ·
  rcases List.mem_cons.1 hx with r | r
  ·
   subst r; exact h.y.ins
  ·
   exact h.p.earlier x r
theorem ofErr_inv {ws:List WageT} {l m : List Elem} (h:ofErr ws l m = 0) : validB ws = true∧preErr l = 0∧missing ws m = false∧amtsB (sumB ws m) = true:=by
 unfold ofErr at h
 split at h
 ·
  cases h
 ·
  split at h
  ·
   rename_i h2; exact absurd h h2
  ·
   split at h
   ·
    cases h
   ·
    split at h
    ·
     cases h
    ·
     rename_i a b c d
     exact ⟨by simpa using a,by simpa using b,by simpa using c,by simpa using d⟩
theorem amtB_iff {n:Int} : amtB n = true ↔ -1000000000≤n∧n≤1000000000:=by simp [amtB]
theorem amts_bd {b:BasesT} (h:amtsB b = true) : (-1000000000≤b.g∧b.g≤1000000000)∧(-1000000000≤b.c∧b.c≤1000000000)∧(-1000000000≤b.t∧b.t≤1000000000)∧(-1000000000≤b.i∧b.i≤1000000000)∧(-1000000000≤b.a∧b.a≤1000000000):=by
 simp only [amtsB,Bool.and_eq_true,amtB_iff] at h
 obtain ⟨⟨⟨⟨a,b⟩,c⟩,d⟩,e⟩:=h
 exact ⟨a,b,c,d,e⟩
theorem InOk.take1 (h:InOk I) (ho:ofErr I.r.wages I.e (sumsP I.e) = 0) : takeE I.p.deds I.base (max I.b.c 0) I.y.taken = 0:=by
 obtain ⟨_,⟨c0,c1⟩,_⟩:=amts_bd (ofErr_inv ho).2.2.2
 have e:I.b.c = (sumB I.r.wages (sumsP I.e)).c:=rfl
 refine takeE_0 h.p.deds h.y.taken (inB_iff.2 ?_) (inB_iff.2 ?_)
 ·
  unfold NetIn.base; omega
 ·
  omega
theorem InOk.levy (h:InOk I) (hp:I.y.periods < I.r.count) (hi:I.insured≤1000000000) {s:SchT} (hs:s ∈ I.r.schemes) (ho:overJ (jointV s I.y.insured.length I.jobs) = false) :
  (0≤(I.levyOf s).employee∧(I.levyOf s).employee≤1000000000)∧0≤(I.levyOf s).employer∧(I.levyOf s).employer≤1000000000:=by
 have hb:=jointR_bd (h.r.sch s hs) (h.emps hp hi) ho
 unfold NetIn.levyOf
 rw [List.getD_eq_getElem?_getD]
 cases e:(jointR s I.y.insured.length I.jobs)[0]? with
 | none=>simp [zLv]
 | some v=>exact hb v (List.mem_of_getElem? e)
end
end Go.Proofs.YtlhkojcmcmkmaaaGreat
namespace Go.Proofs.YtlhkojcmcmkmaaaGreat
open Go.RowKit
end Go.Proofs.YtlhkojcmcmkmaaaGreat
namespace Go.Proofs.YtlhkojcmcmkmaaaGreat
open Go.RowKit
end Go.Proofs.YtlhkojcmcmkmaaaGreat
