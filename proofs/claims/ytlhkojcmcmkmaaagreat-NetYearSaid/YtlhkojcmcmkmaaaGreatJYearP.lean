/- Joined texts: YearP NyS. Conditions: as stated. -/
import Derived.Test.YtlhkojcmcmkmaaaGreatJCmp0
import Derived.Test.YtlhkojcmcmkmaaaGreatJP32m
import Derived.Test.YtlhkojcmcmkmaaaGreatJGenR
import Derived.Test.YtlhkojcmcmkmaaaGreatJCaseIn
import Derived.Test.YtlhkojcmcmkmaaaGreatJPlain2
import Derived.Test.YtlhkojcmcmkmaaaGreatJYearX
namespace Go.Proofs.YtlhkojcmcmkmaaaGreat
open Go.RowKit
def pY : PersonT:=⟨0,[],[],[]⟩
def rY (r:RulesT) : RulesT:=⟨r.wages,r.schemes,r.tar,4,r.sh,r.recover⟩
def inY (r:RulesT) (y:YearT) (e:List Elem) : NetIn:=⟨rY r,pY,y,[],true,e⟩
def zY : YearT:=⟨0,0,0,[],[]⟩
structure YInv (t:TarT) (k:Nat) (y:YearT) : Prop where
 per:y.periods = k
 len:y.insured.length = k
 ins:∀ x ∈ y.insured,0≤x∧x≤3000000
 inc:0≤y.income∧y.income≤3000000 * k
 tk:y.taken = []
 w0:k = 0→y.withheld = 0
 w1:0 < k→y.withheld = dueN t 4 k y.income
theorem YInv.zero (t:TarT) : YInv t 0 zY:=⟨rfl,rfl,fun x hx=>(by cases hx),⟨by decide,by decide⟩,rfl,fun _=>rfl,fun h=>by omega⟩
theorem pY_ok : PersonOk pY:=⟨by decide,by decide,by decide +kernel,⟨by decide,fun o ho=>(by cases ho),List.Pairwise.nil⟩,by decide,fun e he=>(by cases he),fun e he=>(by cases he),fun e he=>(by cases he)⟩
theorem recB_nil : recB [] = true:=by decide +kernel
theorem addE_nil : addE [] [] = 0:=by decide +kernel
theorem addR_nil : addR [] [] = []:=by decide +kernel
theorem takeR_nil (b:Bool) (base av : Int) (y:List Elem) : takeR [] b base av y = []:=by
 unfold takeR
 split
 ·
  rfl
 ·
  rfl
theorem takeE_nil {base av : Int} (h0:0≤base) (h1:base≤1000000000) (h2:0≤av) (h3:av≤1000000000) : takeE [] base av [] = 0:=by
 have e1:validD [] = true:=by decide +kernel
 have e3:inB base 1000000000 = true:=inB_iff.2 ⟨h0,h1⟩
 have e4:inB av 1000000000 = true:=inB_iff.2 ⟨h2,h3⟩
 simp only [takeE,e1,recB_nil,e3,e4,Bool.true_eq_false,if_false]
theorem dueY_bd {t:TarT} (h:TarOk t) {k:Int} (h1:0≤k) (h2:k≤4) {x:Int} (hx:0≤x) : 0≤dueN t 4 k x∧dueN t 4 k x≤x+100 :=
 tax30_bd (scaleN_ok h.brs h1 (by omega) h2) h.u0 h.u1 (Int.ediv_nonneg (Int.mul_nonneg h.a0 h1) (by omega)) (Int.ediv_nonneg (Int.mul_nonneg h.c0 h1) (by omega)) hx
theorem YInv.wh {t:TarT} (ht:TarOk t) {k:Nat} (hk:k≤4) {y:YearT} (h:YInv t k y) : 0≤y.withheld∧y.withheld≤3000000 * k+100:=by
 rcases Nat.eq_zero_or_pos k with h0 | h0
 ·
  rw [h.w0 h0]; omega
 ·
  rw [h.w1 h0]
  have:=dueY_bd ht (k:=k) (by omega) (by omega) h.inc.1
  have:=h.inc.2
  omega
theorem YInv.ok {t:TarT} (ht:TarOk t) {k:Nat} (hk:k≤4) {y:YearT} (h:YInv t k y) : YearOk y:=by
 have hw:=h.wh ht hk
 have hp:=h.per
 refine ⟨by omega,by omega,by rw [h.len,h.per],fun x hx=>by have:=h.ins x hx; omega,h.inc.1,?_,?_,?_,by rw [h.tk]; exact recB_nil⟩
 ·
  have:=h.inc.2
  rw [hp]
  omega
 ·
  rw [hp]; omega
 ·
  rw [hp]
  rcases Nat.eq_zero_or_pos k with h0 | h0
  ·
   rw [h.w0 h0]; omega
  ·
   omega
theorem joint_one (s:SchT) (ins:List Int) (x:Int) : jointV s ins.length [(ins,x)] = nextN s (ins++[x]):=by
 have key:∀ l:List Int,addL (List.replicate l.length 0) l = l:=by
  intro l
  induction l with
  | nil=>rfl
  | cons a l ih =>
   show (0+a) :: addL (List.replicate l.length 0) l = a :: l
   rw [ih,Int.zero_add]
 unfold jointV sumsJ
 simp only [List.foldl_cons,List.foldl_nil]
 have:=key (ins++[x])
 rw [List.length_append,List.length_singleton] at this
 rw [this]
theorem next_small {s:SchT} {l:List Int} (hs:SchOk s) (hne:l ≠ []) (h : ∀ x ∈ l,0≤x) (hl:l.length≤54) (hs2:sumI l≤900000000) : overJ (nextN s l) = false:=by
 obtain ⟨c0,c1⟩:=cumN_bd hs h hl
 have h':∀ x ∈ l.dropLast,0≤x:=fun x hx=>h x ((List.dropLast_sublist l).subset hx)
 obtain ⟨d0,d1⟩:=cumN_bd hs h' (by simp; omega)
 obtain ⟨e0,_⟩:=cumN_drop hs h hne
 have hc:cumN s l≤900000000:=by
  have:=insF_le (s:=s) h
  unfold cumN
  omega
 obtain ⟨_,_,f1,f2,f3,f4,f5⟩:=levy_sizes hs c0 (by omega:cumN s l≤500000000000)
 obtain ⟨_,_,g1,g2,g3,g4,g5⟩:=levy_sizes hs d0 (by omega:cumN s l.dropLast≤500000000000)
 simp only [overJ,nextN,subLv,f1,g1,Bool.or_eq_false_iff,decide_eq_false_iff_not]
 omega
theorem ofErr_sums {ws:List WageT} {es:List Elem} (h:ofErr ws es es = 0) : ofErr ws es (sumsP es) = 0:=by
 rw [ofErr,missing_sums,sumB_sums]
 exact h
structure Per (r:RulesT) (k:Nat) (y:YearT) (e:List Elem) : Prop where
 ro:RulesOk r
 m:r.tar.method = 3
 ws:GenW 4 r.wages
 ge:GenE r.wages e
 el:e.length≤3
 yi:YInv r.tar k y
 k4:k < 4
section
variable {r:RulesT} {k:Nat} {y:YearT} {e:List Elem}
theorem Per.in_ (h:Per r k y e) (hz : ∀ x ∈ e,x.code.size≤maxLen) : InOk (inY r y e) :=
 ⟨⟨h.ro.wages,h.ro.nsch,h.ro.sch,h.ro.asc,h.ro.tar,(by show (1:Int)≤4; omega),(by show (4:Int)≤53; omega),h.ro.sh,h.ro.v0,h.ro.v1⟩,pY_ok,h.yi.ok h.ro.tar (by have:=h.k4; omega),⟨recB_nil,(by show (0:Nat)≤16; omega),fun x hx=>(by cases hx)⟩,fun e he=>(by cases he),hz⟩
theorem Per.bases (h:Per r k y e) : ((-1800000≤(inY r y e).b.c∧(inY r y e).b.c≤1800000)∧(-1800000≤(inY r y e).b.t∧(inY r y e).b.t≤1800000)∧(-1800000≤(inY r y e).b.i∧(inY r y e).b.i≤1800000)∧-1800000≤(inY r y e).b.a∧(inY r y e).b.a≤1800000):=by
 have hb:∀ x ∈ e,-600000≤x.amount∧x.amount≤600000:=fun x hx=>by have:=(h.ge x hx).2; omega
 have hl:=h.el
 have hc:∀ p,-1800000≤condS p e∧condS p e≤1800000:=fun p=>by
  have:=condS_bdd p e 600000 (by omega) hb
  omega
 have e1:(inY r y e).b = sumB r.wages (sumsP e):=rfl
 rw [e1,sumB_sums,sumB_eq]
 exact ⟨hc _,hc _,hc _,hc _⟩
theorem Per.pre (h:Per r k y e) : Pre2 (inY r y e):=by
 obtain ⟨hc,_⟩:=h.bases
 have hel:=h.el
 refine ⟨?_,ofErr_sums (ws:=r.wages) (es:=e) (h.ge.ofErr h.ws (by omega)),?_⟩
 ·
  show y.periods < 4
  rw [h.yi.per]
  have:=h.k4
  omega
 ·
  show takeE [] (max (inY r y e).b.c 0) (max (inY r y e).b.c 0) y.taken = 0
  rw [h.yi.tk]
  exact takeE_nil (by omega) (by omega) (by omega) (by omega)
theorem Per.over (h:Per r k y e) : ∀ s ∈ (inY r y e).r.schemes,overJ (jointV s (inY r y e).y.insured.length (inY r y e).jobs) = false:=by
 intro s hs
 obtain ⟨_,_,hi,_⟩:=h.bases
 have e1:(inY r y e).jobs = [(y.insured,(inY r y e).insured)]:=rfl
 have e2:(inY r y e).insured = max (inY r y e).b.i 0:=rfl
 have hl:=h.yi.len
 have hk:=h.k4
 rw [e1,show (inY r y e).y.insured.length = y.insured.length from rfl,joint_one]
 have hm:∀ x ∈ y.insured++[(inY r y e).insured],0≤x∧x≤3000000:=by
  intro x hx
  rcases List.mem_append.1 hx with hx | hx
  ·
   exact h.yi.ins x hx
  ·
   rw [List.mem_singleton] at hx; subst hx; omega
 have hs2:=(sumI_bd hm).2
 rw [List.length_append,List.length_singleton,hl] at hs2
 exact next_small (h.ro.sch s hs) (by simp) (fun x hx=>(hm x hx).1) (by rw [List.length_append,List.length_singleton]; omega) (by omega)
theorem Per.before (I:NetIn) (h:I.p = pY) : I.before = []:=by unfold NetIn.before; rw [h]; exact takeR_nil _ _ _ _
theorem Per.bnil (r:RulesT) (y:YearT) (e:List Elem) : (inY r y e).before = []:=Per.before _ rfl
theorem Per.lev (h:Per r k y e) (hz : ∀ x ∈ e,x.code.size≤maxLen) : (0≤(inY r y e).levies∧(inY r y e).levies≤12000000000)∧0≤(inY r y e).reliefTo (inY r y e).r.schemes:=by
 obtain ⟨_,_,hi,_⟩:=h.bases
 have e2:(inY r y e).insured = max (inY r y e).b.i 0:=rfl
 have hp:=h.pre.per
 have hb:=levies_bd (I:=inY r y e) (l:=(inY r y e).r.schemes) (k:=(inY r y e).r.schemes.length) h.ro.nsch (fun s hs=>by
  rw [List.take_length] at hs
  exact ((h.in_ hz).levy hp (by omega) hs (h.over s hs)).1)
 rw [List.take_length] at hb
 exact ⟨hb.1,hb.2.1⟩
theorem Per.inc (h:Per r k y e) (hz : ∀ x ∈ e,x.code.size≤maxLen) : 0≤(inY r y e).income∧(inY r y e).income≤1800000:=by
 obtain ⟨_,ht,_⟩:=h.bases
 have hr:=(h.lev hz).2
 have e1:(inY r y e).income = max ((inY r y e).b.t - sumE (inY r y e).before - (inY r y e).reliefTo (inY r y e).r.schemes) 0:=rfl
 rw [Per.bnil] at e1
 have e0:sumE ([] : List Elem) = 0:=rfl
 rw [e0] at e1
 omega
theorem Per.tax (h:Per r k y e) : (inY r y e).tax = dueN r.tar 4 ((k:Int)+1) (y.income+(inY r y e).income) - y.withheld:=by
 show withN r.tar 4 y.periods y.income y.withheld (inY r y e).income = _
 unfold withN
 rw [h.m,if_neg (by decide),if_neg (by decide),h.yi.per]
theorem Per.taxb (h:Per r k y e) (hz : ∀ x ∈ e,x.code.size≤maxLen) : -20000000≤(inY r y e).tax∧(inY r y e).tax≤20000000:=by
 have hi:=h.inc hz
 have hw:=h.yi.wh h.ro.tar (by have:=h.k4; omega)
 have hy:=h.yi.inc
 have hk:=h.k4
 have hd:=dueY_bd h.ro.tar (k:=(k:Int)+1) (by omega) (by omega) (x:=y.income+(inY r y e).income) (by omega)
 rw [h.tax]
 omega
theorem Per.t1 (h:Per r k y e) : (inY r y e).taken1 = []:=by
 show addR y.taken (inY r y e).before = []
 rw [h.yi.tk,Per.bnil]; exact addR_nil
theorem Per.after (r:RulesT) (y:YearT) (e:List Elem) : (inY r y e).after = []:=takeR_nil _ _ _ _
theorem Per.t2 (h:Per r k y e) : (inY r y e).taken2 = []:=by
 show addR (inY r y e).taken1 (inY r y e).after = []
 rw [h.t1,Per.after]; exact addR_nil
theorem Per.err (h:Per r k y e) (hz : ∀ x ∈ e,x.code.size≤maxLen) : (inY r y e).err = 0:=by
 obtain ⟨hc,ht,hi,ha⟩:=h.bases
 obtain ⟨h1,h2,h3⟩:=h.pre
 have h4:=overs_no h.over
 have htb:=h.taxb hz
 have h5:amtB (inY r y e).tax = true:=amtB_iff.2 ⟨by omega,by omega⟩
 have hlv:=(h.lev hz).1
 have hl3:(inY r y e).left3≤100000000:=by
  have e1:(inY r y e).left3 = (inY r y e).b.c - sumE (inY r y e).before - (inY r y e).levies - (inY r y e).tax:=rfl
  rw [Per.bnil,show sumE ([] : List Elem) = 0 from rfl] at e1
  omega
 have h6:¬ ((inY r y e).first = true∧1000000000 < (inY r y e).net):=by
  rintro ⟨_,h⟩
  have e1:(inY r y e).net = max ((inY r y e).left3 - max ((inY r y e).b.c - (inY r y e).b.a) 0) 0:=rfl
  omega
 have h7:addE (inY r y e).y.taken (inY r y e).before = 0:=by
  rw [Per.bnil,show (inY r y e).y.taken = y.taken from rfl,h.yi.tk]; exact addE_nil
 have h8:takeE (inY r y e).p.deds (inY r y e).base (max (inY r y e).left4 0) (inY r y e).taken1 = 0:=by
  rw [h.t1]
  have e4:(inY r y e).left4 = (inY r y e).left3 - 0:=rfl
  have e5:(inY r y e).base = max (inY r y e).b.c 0:=rfl
  exact takeE_nil (by omega) (by omega) (by omega) (by omega)
 have h9:addE (inY r y e).taken1 (inY r y e).after = 0:=by rw [h.t1,Per.after]; exact addE_nil
 unfold NetIn.err
 rw [if_neg (by omega),h2,if_neg (by simp),h3,if_neg (by simp),if_neg (by rw [h4]; simp),if_neg (by rw [h5]; simp),if_neg h6,h7,if_neg (by simp),h8,if_neg (by simp),h9]
theorem Per.next (h:Per r k y e) (hz : ∀ x ∈ e,x.code.size≤maxLen) : YInv r.tar (k+1) (inY r y e).next:=by
 obtain ⟨_,_,hi,_⟩:=h.bases
 have hn:=h.inc hz
 have hy:=h.yi.inc
 have e2:(inY r y e).insured = max (inY r y e).b.i 0:=rfl
 refine ⟨?_,?_,?_,?_,h.t2,fun h=>by omega,fun _=>?_⟩
 ·
  show y.periods+1 = ((k+1:Nat) : Int)
  rw [h.yi.per]; omega
 ·
  show (y.insured++[(inY r y e).insured]).length = k+1
  rw [List.length_append,h.yi.len,List.length_singleton]
 ·
  intro x hx
  rcases List.mem_append.1 (show x ∈ y.insured++[(inY r y e).insured] from hx) with hx | hx
  ·
   exact h.yi.ins x hx
  ·
   rw [List.mem_singleton] at hx; subst hx; omega
 ·
  show 0≤y.income+(inY r y e).income∧y.income+(inY r y e).income≤3000000 * ((k+1:Nat) : Int)
  omega
 ·
  show y.withheld+(inY r y e).tax = dueN r.tar 4 ((k+1:Nat) : Int) (y.income+(inY r y e).income)
  rw [h.tax,show ((k+1:Nat) : Int) = (k:Int)+1 by omega]
  omega
end
def cAll : ByteArray:=⟨#[97,108,108]⟩
def wAll : WageT:=⟨cAll,1,true,false,false,4000⟩
def inZ (r:RulesT) (n:Int) : NetIn:=⟨⟨[wAll],[],r.tar,1,r.sh,r.recover⟩,pY,zY,[],true,[⟨cAll,n⟩]⟩
theorem sums_one (x:Elem) : sumsP [x] = [x]:=rfl
theorem inZ_b (r:RulesT) (n:Int) : (inZ r n).b = ⟨n,n,n,0,0⟩:=by
 show sumB [wAll] (sumsP [⟨cAll,n⟩]) = _
 rw [sums_one]
 show stepB [wAll] zeroB ⟨cAll,n⟩ = _
 have hf:findW [wAll] cAll = some wAll:=by decide +kernel
 have hw:(findW [wAll] cAll).getD zeroW = wAll:=by rw [hf]; rfl
 simp only [stepB,addBs,hw]
 simp [zeroB,wAll]
theorem valid_all : validB [wAll] = true:=by decide +kernel
section
variable {r:RulesT} {n:Int}
theorem inZ_ok (h:RulesOk r) : InOk (inZ r n):=by
 refine ⟨⟨valid_all,by simp [inZ],fun s hs=>(by cases hs),List.Pairwise.nil,h.tar,(by show (1:Int)≤1; omega),(by show (1:Int)≤53; omega),h.sh,h.v0,h.v1⟩,pY_ok,(YInv.zero r.tar).ok h.tar (by omega),⟨recB_nil,(by show (0:Nat)≤16; omega),fun x hx=>(by cases hx)⟩,fun e he=>(by cases he),fun x hx=>?_⟩
 have:x = ⟨cAll,n⟩:=by simpa [inZ] using hx
 subst this
 show cAll.size≤maxLen
 decide +kernel
theorem inZ_of (h0:0≤n) (h1:n≤20000000) : ofErr (inZ r n).r.wages (inZ r n).e (sumsP (inZ r n).e) = 0:=by
 have hb:=inZ_b r n
 have hp:preErr [⟨cAll,n⟩] = 0:=by
  refine preErr_ok (by simp) (fun x hx=>?_) (fun x hx=>?_) fun c=>?_
  ·
   rw [List.mem_singleton] at hx; subst hx; show nameB cAll = true; decide +kernel
  ·
   rw [List.mem_singleton] at hx; subst hx; exact amtB_mk (by show -1000000000≤n; omega) (by show n≤1000000000; omega)
  ·
   refine amtB_mk ?_ ?_
   all_goals
    simp only [totE]
    split <;> omega
 have hm:missing [wAll] (sumsP [⟨cAll,n⟩]) = false:=by
  rw [sums_one]
  have hf:(findW [wAll] cAll).isNone = false:=by decide +kernel
  simp [missing,hf]
 have ha:amtsB (sumB [wAll] (sumsP [⟨cAll,n⟩])) = true:=by
  have hb':sumB [wAll] (sumsP [⟨cAll,n⟩]) = ⟨n,n,n,0,0⟩:=hb
  rw [hb']
  have h3:amtB n = true:=amtB_mk (by omega) (by omega)
  have h4:amtB 0 = true:=amtB_mk (by omega) (by omega)
  simp only [amtsB,h3,h4,Bool.and_self]
 show ofErr [wAll] [⟨cAll,n⟩] (sumsP [⟨cAll,n⟩]) = 0
 simp only [Go.Proofs.YtlhkojcmcmkmaaaGreat.ofErr,valid_all,hp,hm,ha,Bool.true_eq_false,Bool.false_eq_true,if_false,ne_eq,not_true_eq_false]
theorem inZ_inc (h0:0≤n) : (inZ r n).income = n:=by
 have e1:(inZ r n).income = max ((inZ r n).b.t - sumE (inZ r n).before - 0) 0:=rfl
 rw [Per.before _ rfl,inZ_b] at e1
 rw [e1]
 show max (n - 0 - 0) 0 = n
 omega
theorem inZ_tax (_h:RulesOk r) (hm:r.tar.method = 3) (h0:0≤n) : (inZ r n).tax = dueN r.tar 1 1 n:=by
 show withN r.tar 1 0 0 0 (inZ r n).income = _
 unfold withN
 rw [hm,if_neg (by decide),if_neg (by decide),inZ_inc h0]
 simp
theorem inZ_err (h:RulesOk r) (hm:r.tar.method = 3) (h0:0≤n) (h1:n≤20000000) : (inZ r n).err = 0:=by
 have hb:=inZ_b r n
 have hcb:(inZ r n).b.c = n:=by rw [hb]
 have hab:(inZ r n).b.a = 0:=by rw [hb]
 have htd:=inZ_tax (n:=n) h hm h0
 have hd:=tax30_bd (scaleN_ok h.tar.brs (num:=1) (den:=1) (by omega) (by omega) (by omega)) h.tar.u0 h.tar.u1 (al:=r.tar.allowance * 1 / 1) (cr:=r.tar.credit * 1 / 1) (by have:=h.tar.a0; omega) (by have:=h.tar.c0; omega) h0
 have hd':0≤dueN r.tar 1 1 n∧dueN r.tar 1 1 n≤n+100:=hd
 rw [← htd] at hd'
 have h2:=inZ_of (r:=r) h0 h1
 have h3:takeE (inZ r n).p.deds (inZ r n).base (max (inZ r n).b.c 0) (inZ r n).y.taken = 0:=by
  have e5:(inZ r n).base = max (inZ r n).b.c 0:=rfl
  exact takeE_nil (by omega) (by omega) (by omega) (by omega)
 have h4:(inZ r n).overs = false:=rfl
 have h5:amtB (inZ r n).tax = true:=amtB_iff.2 ⟨by omega,by omega⟩
 have hbn:(inZ r n).before = []:=Per.before _ rfl
 have hl3:(inZ r n).left3≤100000000:=by
  have e1:(inZ r n).left3 = (inZ r n).b.c - sumE (inZ r n).before - 0 - (inZ r n).tax:=rfl
  rw [hbn,show sumE ([] : List Elem) = 0 from rfl] at e1
  omega
 have h6:¬ ((inZ r n).first = true∧1000000000 < (inZ r n).net):=by
  rintro ⟨_,h⟩
  have e1:(inZ r n).net = max ((inZ r n).left3 - max ((inZ r n).b.c - (inZ r n).b.a) 0) 0:=rfl
  omega
 have h7:addE (inZ r n).y.taken (inZ r n).before = 0:=by rw [hbn]; exact addE_nil
 have ht1:(inZ r n).taken1 = []:=by
  show addR [] (inZ r n).before = []
  rw [hbn]; exact addR_nil
 have haf:(inZ r n).after = []:=takeR_nil _ _ _ _
 have h8:takeE (inZ r n).p.deds (inZ r n).base (max (inZ r n).left4 0) (inZ r n).taken1 = 0:=by
  rw [ht1]
  have e4:(inZ r n).left4 = (inZ r n).left3 - 0:=rfl
  have e5:(inZ r n).base = max (inZ r n).b.c 0:=rfl
  exact takeE_nil (by omega) (by omega) (by omega) (by omega)
 have h9:addE (inZ r n).taken1 (inZ r n).after = 0:=by rw [ht1,haf]; exact addE_nil
 have hp:¬ (inZ r n).r.count≤(inZ r n).y.periods:=by show ¬ (1:Int)≤0; omega
 unfold NetIn.err
 rw [if_neg hp,h2,if_neg (by simp),h3,if_neg (by simp),if_neg (by rw [h4]; simp),if_neg (by rw [h5]; simp),if_neg h6,h7,if_neg (by simp),h8,if_neg (by simp),h9]
end
theorem scTo_full (t:List BrT) {d:Int} (hd:0 < d) : ∀ k,scTo t d d k = scTo t 1 1 k:=by
 have hf:∀ i,scF t d d i = scF t 1 1 i:=fun i=>by
  unfold scF
  rw [Int.mul_ediv_cancel _ (by omega)]; simp
 intro k
 induction k with
 | zero=>rfl
 | succ k ih =>
  have hs:scSkip t d d k = scSkip t 1 1 k:=by unfold scSkip; rw [hf,hf]
  rw [scTo,scTo,hs,hf,ih]
theorem due_full (t:TarT) (x:Int) : dueN t 4 4 x = dueN t 1 1 x:=by
 unfold dueN scaleN
 rw [scTo_full t.brs (by omega:(0:Int) < 4),Int.mul_ediv_cancel _ (by omega),Int.mul_ediv_cancel _ (by omega)]
 simp
end Go.Proofs.YtlhkojcmcmkmaaaGreat
namespace Go.Proofs.YtlhkojcmcmkmaaaGreat
open Go.RowKit
def zSlip : Array Value:=#[.int .i64 0,.int .i64 0,.int .i64 0,.int .i64 0,.int .i64 0,.int .i64 0,.slice none 0 0]
def zYear : Array Value:=#[.int .i64 0,.int .i64 0,.int .i64 0,.slice none 0 0,.slice none 0 0]
structure NySt (wr:World) (b M : Nat) (el:Option (Option Addr × List Elem)) (o:Option (Option Addr × List LineT × Option Addr × List Int)) (gs gn : Option Nat) (cs cn : Array Value) (w:World) : Prop where
 G:wr.grownBy w (some b)
 D:DeckIn w b M
 E:∀ A es,el = some (A,es)→SliceOf encE 2 w w.heap.size A es
 L:∀ A ls B ins,o = some (A,ls,B,ins)→SliceOf encL 3 w w.heap.size A ls∧(∀ a,A = some a→wr.heap.size≤a.block∧(ls ≠ []→gs ≠ some a.block∧gn ≠ some a.block))
 I:∀ A ls B ins,o = some (A,ls,B,ins)→SliceOf encI 1 w w.heap.size B ins∧(∀ a,B = some a→wr.heap.size≤a.block∧(ins ≠ []→gs ≠ some a.block∧gn ≠ some a.block))
 S:∀ g,gs = some g→Blk w g 27 cs∧wr.heap.size≤g∧gn ≠ some g
 N:∀ g,gn = some g→Blk w g 53 cn∧wr.heap.size≤g
section
variable {wr w w':World} {b M:Nat} {el:Option (Option Addr × List Elem)} {o:Option (Option Addr × List LineT × Option Addr × List Int)} {gs gn:Option Nat} {cs cn:Array Value}
theorem NySt.adv (h:NySt wr b M el o gs gn cs cn w) (hb:Below w.heap.size w w') : NySt wr b M el o gs gn cs cn w' :=
 ⟨only_adv h.G hb,h.D.bel hb,fun A es e=>(h.E A es e).adv hb,fun A ls B ins e=>⟨(h.L A ls B ins e).1.adv hb,(h.L A ls B ins e).2⟩,fun A ls B ins e=>⟨(h.I A ls B ins e).1.adv hb,(h.I A ls B ins e).2⟩,fun g e=>⟨(h.S g e).1.adv hb,(h.S g e).2⟩,fun g e=>⟨(h.N g e).1.adv hb,(h.N g e).2⟩⟩
theorem NySt.start (hd:DeckIn wr b M) : NySt wr b M none none none none zSlip zYear wr:=⟨only_refl _ _,hd,nofun,nofun,nofun,nofun,nofun⟩
theorem SliceOf.lt_ {α:Type} {enc:α→List Value} {k:Nat} {w:World} {B:Nat} {A:Option Addr} {xs:List α} (h:SliceOf enc k w B A xs) (hne:xs ≠ []) {a:Addr} (ha:A = some a) : a.block < B:=by
 obtain ⟨bb,off,e,hb,_⟩:=h hne
 rw [ha] at e
 injection e with e
 subst e
 exact hb
theorem NySt.mks (h:NySt wr b M el o none gn zSlip cn w) : NySt wr b M el o (some w.heap.size) gn zSlip cn (w.alloc (.cells zSlip 27)):=by
 have h2:=h.adv (below_new w (.cells zSlip 27))
 refine ⟨h2.G,h2.D,h2.E,fun A ls B ins e=>⟨(h2.L A ls B ins e).1,fun a ha=>⟨((h2.L A ls B ins e).2 a ha).1,fun hne=>⟨fun e'=>?_,(((h2.L A ls B ins e).2 a ha).2 hne).2⟩⟩⟩,fun A ls B ins e=>⟨(h2.I A ls B ins e).1,fun a ha=>⟨((h2.I A ls B ins e).2 a ha).1,fun hne=>⟨fun e'=>?_,(((h2.I A ls B ins e).2 a ha).2 hne).2⟩⟩⟩,fun g e=>?_,h2.N⟩
 ·
  have:=(h.L A ls B ins e).1.lt_ hne ha; injection e' with e'; omega
 ·
  have:=(h.I A ls B ins e).1.lt_ hne ha; injection e' with e'; omega
 ·
  injection e with e
  subst e
  exact ⟨Blk.new _ _ _,h.G.size,fun e=>by have:=(h.N _ e).1.lt; omega⟩
theorem NySt.mkn (h:NySt wr b M el o gs none cs zYear w) : NySt wr b M el o gs (some w.heap.size) cs zYear (w.alloc (.cells zYear 53)):=by
 have h2:=h.adv (below_new w (.cells zYear 53))
 refine ⟨h2.G,h2.D,h2.E,fun A ls B ins e=>⟨(h2.L A ls B ins e).1,fun a ha=>⟨((h2.L A ls B ins e).2 a ha).1,fun hne=>⟨(((h2.L A ls B ins e).2 a ha).2 hne).1,fun e'=>?_⟩⟩⟩,fun A ls B ins e=>⟨(h2.I A ls B ins e).1,fun a ha=>⟨((h2.I A ls B ins e).2 a ha).1,fun hne=>⟨(((h2.I A ls B ins e).2 a ha).2 hne).1,fun e'=>?_⟩⟩⟩,fun g e=>⟨(h2.S g e).1,(h2.S g e).2.1,fun e'=>?_⟩,fun g e=>?_⟩
 ·
  have:=(h.L A ls B ins e).1.lt_ hne ha; injection e' with e'; omega
 ·
  have:=(h.I A ls B ins e).1.lt_ hne ha; injection e' with e'; omega
 ·
  have:=(h.S g e).1.lt; injection e' with e'; omega
 ·
  injection e with e
  subst e
  exact ⟨Blk.new _ _ _,h.G.size⟩
theorem NySt.draw {M' : Nat} {A:Option Addr} {es:List Elem} (h:NySt wr b M none none gs gn cs cn w) (hb:b < wr.heap.size) (hd:DeckIn w' b M') (hg:w.grownBy w' (some b)) (hs:SliceOf encE 2 w' w'.heap.size A es)  : NySt wr b M' (some (A,es)) none gs gn cs cn w':=by
 refine ⟨only_trans h.G hg,hd,fun A' es' e=>?_,nofun,nofun,fun g e=>⟨(h.S g e).1.grown hg (fun e'=>?_),(h.S g e).2⟩,fun g e=>⟨(h.N g e).1.grown hg (fun e'=>?_),(h.N g e).2⟩⟩
 ·
  injection e with e
  injection e with e1 e2
  subst e1 e2
  exact hs
 ·
  have:=(h.S g e).2.1; injection e'; omega
 ·
  have:=(h.N g e).2; injection e'; omega
theorem NySt.comp {A B : Option Addr} {ls:List LineT} {ins:List Int} (h:NySt wr b M el none gs gn cs cn w) (hb:Below w.heap.size w w') (hL:SliceOf encL 3 w' w'.heap.size A ls) (hI:SliceOf encI 1 w' w'.heap.size B ins) (fA : ∀ a,A = some a→w.heap.size≤a.block) (fB : ∀ a,B = some a→w.heap.size≤a.block) :
  NySt wr b M el (some (A,ls,B,ins)) gs gn cs cn w':=by
 have h2:=h.adv hb
 have hz:=h.G.size
 refine ⟨h2.G,h2.D,h2.E,fun A' ls' B' ins' e=>?_,fun A' ls' B' ins' e=>?_,h2.S,h2.N⟩
 ·
  injection e with e
  injection e with e1 e
  injection e with e2 e
  subst e1 e2
  refine ⟨hL,fun a ha=>⟨by have:=fA a ha; omega,fun _=>⟨fun e=>?_,fun e=>?_⟩⟩⟩
  ·
   have:=(h.S _ e).1.lt; have:=fA a ha; omega
  ·
   have:=(h.N _ e).1.lt; have:=fA a ha; omega
 ·
  injection e with e
  injection e with e1 e
  injection e with e2 e
  injection e with e3 e4
  subst e3 e4
  refine ⟨hI,fun a ha=>⟨by have:=fB a ha; omega,fun _=>⟨fun e=>?_,fun e=>?_⟩⟩⟩
  ·
   have:=(h.S _ e).1.lt; have:=fB a ha; omega
  ·
   have:=(h.N _ e).1.lt; have:=fB a ha; omega
theorem SliceOf.off_ {α:Type} {enc:α→List Value} {k:Nat} {w w' : World} {A:Option Addr} {xs:List α} {g:Nat} (h:SliceOf enc k w w.heap.size A xs) (hg:w.grownBy w' (some g)) (hA:xs ≠ []→∀ a,A = some a→a.block ≠ g) : SliceOf enc k w' w'.heap.size A xs:=by
 intro hne
 exact h.advG hg (fun a ha=>hA hne a ha) hne
theorem NySt.fills {g:Nat} (h:NySt wr b M none o (some g) gn cs cn w) (hb:b < wr.heap.size) (vs:Array Value) (hs:vs.size = cs.size) : NySt wr b M none o (some g) gn vs cn (w.setCells g 0 vs.toList):=by
 obtain ⟨hS,hs1,hne⟩:=h.S g rfl
 have g1:=setCells_grown g vs.toList 0 w
 refine ⟨only_then h.G g1 (fun q e=>.inl (by injection e; omega)),h.D.grown g1 (fun q e=>by injection e; omega),nofun,fun A ls B ins e=>⟨(h.L A ls B ins e).1.off_ g1 fun hne a ha e'=>?_,(h.L A ls B ins e).2⟩,fun A ls B ins e=>⟨(h.I A ls B ins e).1.off_ g1 fun hne a ha e'=>?_,(h.I A ls B ins e).2⟩,fun q e=>?_,fun q e=>?_⟩
 ·
  exact (((h.L A ls B ins e).2 a ha).2 hne).1 (by rw [e'])
 ·
  exact (((h.I A ls B ins e).2 a ha).2 hne).1 (by rw [e'])
 ·
  injection e with e
  subst e
  exact ⟨hS.setAll hs,hs1,hne⟩
 ·
  exact ⟨(h.N q e).1.grown g1 (fun e'=>hne (by rw [e,← e'])),(h.N q e).2⟩
theorem NySt.filln {g:Nat} (h:NySt wr b M none o gs (some g) cs cn w) (hb:b < wr.heap.size) (vs:Array Value) (hs:vs.size = cn.size) : NySt wr b M none o gs (some g) cs vs (w.setCells g 0 vs.toList):=by
 obtain ⟨hN,hs1⟩:=h.N g rfl
 have g1:=setCells_grown g vs.toList 0 w
 refine ⟨only_then h.G g1 (fun q e=>.inl (by injection e; omega)),h.D.grown g1 (fun q e=>by injection e; omega),nofun,fun A ls B ins e=>⟨(h.L A ls B ins e).1.off_ g1 fun hne a ha e'=>?_,(h.L A ls B ins e).2⟩,fun A ls B ins e=>⟨(h.I A ls B ins e).1.off_ g1 fun hne a ha e'=>?_,(h.I A ls B ins e).2⟩,fun q e=>?_,fun q e=>?_⟩
 ·
  exact (((h.L A ls B ins e).2 a ha).2 hne).2 (by rw [e'])
 ·
  exact (((h.I A ls B ins e).2 a ha).2 hne).2 (by rw [e'])
 ·
  refine ⟨(h.S q e).1.grown g1 (fun e'=>(h.S q e).2.2 (by rw [← e'])),(h.S q e).2⟩
 ·
  injection e with e
  subst e
  exact ⟨hN.setAll hs,hs1⟩
theorem NySt.noel (h:NySt wr b M el o gs gn cs cn w) : NySt wr b M none o gs gn cs cn w:=⟨h.G,h.D,nofun,h.L,h.I,h.S,h.N⟩
end
theorem quiet_load_blk {P:Program} {ops:Array Oper} {C:World→Prop} {Q:Act→Prop} {o:Oper} {rest:List Oper} {a:Act} (ty:TypeId) (x:Operand) (g:Nat) {t:TypeId} {cs:Array Value} {d:TypeDesc} (hgd:o.guard = none) (ho:o.op = .load ty x) (hx:a.eval x = .pointer (some ⟨g,0,none⟩)) (hB : ∀ w,C w→Blk w g t cs)
  (hu:P.underlying ty = some d) (hd:d.isRow = true) (hi:(P.info? ty).map (·.size) = some cs.size) (h:wpQuiet P ops C Q rest (a.put o.dst (.agg cs))) : wpQuiet P ops C Q (o :: rest) a:=by
 unfold wpQuiet
 rw [if_pos (by simp [Region.wanted,hgd])]
 refine ⟨.agg cs,fun w hw=>?_,h⟩
 have hr:=run_loadVar_mid w g 0 ty cs.toList d (hB w hw).rangeAt hu hd (by simpa using hi)
 rw [Array.toArray_toList] at hr
 unfold Oper.quietAt execOp
 simp only [ho,hx,Instr.loadAt,Instr.sureAddr,Sem.run_bind,Sem.run_pure,Result.andThen_ok,hr]
 exact ⟨rfl,rfl⟩
theorem run_store_agg {P:Program} {w:World} {g:Nat} {t ty : TypeId} {zs vs : Array Value} {o:Oper} {b:Act} {x d : Operand} (hB:Blk w g t zs) (hsz:vs.size = zs.size) (hi2 : (P.info? ty).map (·.size) = some vs.size) (h1:vs.toList.all (·.oneCell') = true)
  (hxo:o.op = .store ty d x) (hd:b.eval d = .pointer (some ⟨g,0,none⟩)) (hx:b.eval x = .agg vs) : (execOp b.eval o).run P w = .ok .skip (w.setCells g 0 vs.toList):=by
 unfold execOp
 simp only [hxo,hd,hx,Instr.storeAt,Instr.sureAddr,Sem.run_bind,Sem.run_pure,Result.andThen_ok,run_storeVar_mid w g 0 ty vs (by have:=hB.there; rwa [← hsz] at this) hi2 (by simpa using h1)]
def NyE (wr:World) (b M : Nat) (r:RulesT) (k:Nat) (y:YearT) (gs gn : Option Nat) (v:Value) (w:World) : Prop :=
 ∃ A es ec,v = .slice A es.length ec∧Per r k y es∧(∀ x ∈ es,x.code.size≤maxLen)∧NySt wr b M (some (A,es)) none gs gn zSlip zYear w
def NyV (I:NetIn) (S Y : Array Value) (A B : Option Addr) : Prop :=
 ∃ c d T t,S = #[.int .i64 I.b.g,.int .i64 I.b.c,.int .i64 I.b.t,.int .i64 I.b.i,.int .i64 I.b.a,.int .i64 I.legal,.slice A I.lines.length c]∧Y = #[.int .i64 I.next.periods,.int .i64 I.next.income,.int .i64 I.next.withheld,.slice B I.next.insured.length d,.slice T I.next.taken.length t]
theorem NyV.form {I:NetIn} {S Y : Array Value} {A B : Option Addr} (h:NyV I S Y A B) : ∃ i0 i1 i2 i3 i4 i5 n1 c1 j0 j1 j2 n2 c2 T n3 c3,S = #[.int .i64 i0,.int .i64 i1,.int .i64 i2,.int .i64 i3,.int .i64 i4,.int .i64 i5,.slice A n1 c1]∧Y = #[.int .i64 j0,.int .i64 j1,.int .i64 j2,.slice B n2 c2,.slice T n3 c3]:=by
 obtain ⟨c,d,T,t,h1,h2⟩:=h
 exact ⟨_,_,_,_,_,_,_,_,_,_,_,_,_,_,_,_,h1,h2⟩
def NyC (wr:World) (b M : Nat) (r:RulesT) (k:Nat) (y:YearT) (gs gn : Option Nat) (S Y : Array Value) (w:World) : Prop :=
 ∃ es A B,Per r k y es∧(∀ x ∈ es,x.code.size≤maxLen)∧NyV (inY r y es) S Y A B∧NySt wr b M none (some (A,(inY r y es).lines,B,(inY r y es).next.insured)) gs gn zSlip zYear w
section
variable {wr w w':World} {b M:Nat} {r:RulesT} {k:Nat} {y:YearT} {gs gn:Option Nat} {v:Value} {S Y:Array Value}
theorem NyE.adv (h:NyE wr b M r k y gs gn v w) (hb:Below w.heap.size w w') : NyE wr b M r k y gs gn v w':=by obtain ⟨A,es,ec,h1,h2,h3,h4⟩:=h; exact ⟨A,es,ec,h1,h2,h3,h4.adv hb⟩
theorem NyC.adv (h:NyC wr b M r k y gs gn S Y w) (hb:Below w.heap.size w w') : NyC wr b M r k y gs gn S Y w':=by obtain ⟨es,A,B,h1,h2,h3,h4⟩:=h; exact ⟨es,A,B,h1,h2,h3,h4.adv hb⟩
theorem NyE.mks (h:NyE wr b M r k y none gn v w) : NyE wr b M r k y (some w.heap.size) gn v (w.alloc (.cells zSlip 27)):=by obtain ⟨A,es,ec,h1,h2,h3,h4⟩:=h; exact ⟨A,es,ec,h1,h2,h3,h4.mks⟩
theorem NyE.mkn (h:NyE wr b M r k y gs none v w) : NyE wr b M r k y gs (some w.heap.size) v (w.alloc (.cells zYear 53)):=by obtain ⟨A,es,ec,h1,h2,h3,h4⟩:=h; exact ⟨A,es,ec,h1,h2,h3,h4.mkn⟩
theorem NyC.mks (h:NyC wr b M r k y none gn S Y w) : NyC wr b M r k y (some w.heap.size) gn S Y (w.alloc (.cells zSlip 27)):=by obtain ⟨es,A,B,h1,h2,h3,h4⟩:=h; exact ⟨es,A,B,h1,h2,h3,h4.mks⟩
theorem NyC.mkn (h:NyC wr b M r k y gs none S Y w) : NyC wr b M r k y gs (some w.heap.size) S Y (w.alloc (.cells zYear 53)):=by obtain ⟨es,A,B,h1,h2,h3,h4⟩:=h; exact ⟨es,A,B,h1,h2,h3,h4.mkn⟩
theorem NyE.C (h:NyE wr b M r k y gs gn v w) : wr.grownBy w (some b):=by obtain ⟨A,es,ec,h1,h2,h3,h4⟩:=h; exact h4.G
theorem NyC.C (h:NyC wr b M r k y gs gn S Y w) : wr.grownBy w (some b):=by obtain ⟨es,A,B,h1,h2,h3,h4⟩:=h; exact h4.G
end
theorem gb_stable (wr:World) (b:Nat) : Stable (fun w'=>wr.grownBy w' (some b)):=fun _ _ h hb=>only_adv h hb
structure FrB {α:Type} (enc:α→List Value) (k:Nat) (w:World) (lo hi : Nat) (A:Option Addr) (xs:List α) : Prop where
 sl:SliceOf enc k w hi A xs
 fr:∀ a,A = some a→lo≤a.block
section
variable {α:Type} {enc:α→List Value} {k:Nat} {w w':World} {lo hi:Nat} {A:Option Addr} {xs:List α}
theorem FrB.grown {row:Option Nat} (h:FrB enc k w lo hi A xs) (hg:w.grownBy w' row) (hhi:hi≤w.heap.size) (hr : ∀ g,row = some g→g < lo ∨ hi≤g) : FrB enc k w' lo hi A xs:=⟨fun hne=>by
 obtain ⟨c,off,e,hb,hc⟩:=h.sl hne
 have hlo:=h.fr _ e
 exact ⟨c,off,e,hb,fun i x hi' j v hj=>(World.cell?_of_block (hg.block c (by omega) (fun e'=>by have:=hr c e'.symm; simp only at hlo; omega))).trans (hc i x hi' j v hj)⟩,h.fr⟩
theorem FrB.in_ (h:FrB enc k w lo hi A xs) (hhi:hi≤w.heap.size) : SliceOf enc k w w.heap.size A xs:=h.sl.more hhi
theorem FrS.toB (h:FrS enc k w lo A xs) : FrB enc k w lo w.heap.size A xs:=⟨h.sl,h.fr⟩
end
def rQ (m:RulesM) : RulesM:=⟨m.Aw,m.cw,m.ws,m.As,m.cs,m.ss,m.tm,4,m.sh,m.recover⟩
def rQv (m:RulesM) : Array Value:=#[.slice m.Aw m.ws.length m.cw,.slice m.As m.ss.length m.cs,.int .i64 m.tm.t.method,.slice m.tm.Ab m.tm.t.brs.length m.tm.cb,.int .i64 m.tm.t.allowance,.int .i64 m.tm.t.credit,.int .i64 m.tm.t.unit,.int .i64 m.tm.t.mode,.slice m.tm.Ar m.tm.t.rows.length m.tm.cr,.int .i64 4,.int .i64 m.sh.fixed,.int .i64 m.sh.dependent,.int .i64 m.sh.lower,.int .i64 m.sh.share,.int .i64 m.sh.top,.int .i64 m.recover]
def pQ : PersonM:=⟨0,none,0,[],none,0,[],none,0,[]⟩
def pQv : Array Value:=#[.int .i64 0,.slice none 0 0,.slice none 0 0,.slice none 0 0]
def yQv (y:YearM) : Array Value:=#[.int .i64 y.periods,.int .i64 y.income,.int .i64 y.withheld,.slice y.Ai y.ins.length y.ci,.slice y.At y.taken.length y.ct]
structure RulesB (m:RulesM) (w:World) (lo hi : Nat) : Prop where
 ws:FrB encW 6 w lo hi m.Aw m.ws
 ss:FrB encSch 8 w lo hi m.As m.ss
 brs:FrB encBr 2 w lo hi m.tm.Ab m.tm.t.brs
 rows:FrB encRw 2 w lo hi m.tm.Ar m.tm.t.rows
section
variable {m:RulesM} {w w':World} {lo hi:Nat}
theorem RulesB.grown {row:Option Nat} (h:RulesB m w lo hi) (hg:w.grownBy w' row) (hhi:hi≤w.heap.size) (hr : ∀ g,row = some g→g < lo ∨ hi≤g) : RulesB m w' lo hi:=⟨h.ws.grown hg hhi hr,h.ss.grown hg hhi hr,h.brs.grown hg hhi hr,h.rows.grown hg hhi hr⟩
theorem RulesB.inQ (h:RulesB m w lo hi) (hhi:hi≤w.heap.size) : (rQ m).In w:=⟨h.ws.in_ hhi,h.ss.in_ hhi,⟨h.brs.in_ hhi,h.rows.in_ hhi⟩⟩
theorem RulesF.toB (h:RulesF m w lo) : RulesB m w lo w.heap.size:=⟨h.ws.toB,h.ss.toB,h.tm.brs.toB,h.tm.rows.toB⟩
theorem RulesB.lower {lo' : Nat} (h:RulesB m w lo hi) (hl:lo'≤lo) : RulesB m w lo' hi:=⟨⟨h.ws.sl,fun a ha=>Nat.le_trans hl (h.ws.fr a ha)⟩,⟨h.ss.sl,fun a ha=>Nat.le_trans hl (h.ss.fr a ha)⟩,⟨h.brs.sl,fun a ha=>Nat.le_trans hl (h.brs.fr a ha)⟩,⟨h.rows.sl,fun a ha=>Nat.le_trans hl (h.rows.fr a ha)⟩⟩
end
structure NyH (m:RulesM) (ym:YearM) (b g gy M k : Nat) (w:World) : Prop where
 rf:RulesB m w (b+1) g
 yi:FrS encI 1 w (gy+1) ym.Ai ym.ins
 inv:YInv m.tm.t k ym.t
 D:DeckIn w b M
 R:Blk w g 45 (rQv m)
 Y:Blk w gy 53 (yQv ym)
 bg:b < g
 gg:g < gy
section
variable {m:RulesM} {ym:YearM} {b g gy M k:Nat} {wr w:World} {gs gn:Option Nat} {v:Value}
theorem ny_draw (hH:NyH m ym b g gy M k wr) (hg:RulesG m) (hm:m.tm.t.method = 3) (hk:k < 4) (hM:M≤800000) (h:NySt wr b M none none gs gn zSlip zYear w) :
  Calls Tryz.prog 28 #[.pointer (some ⟨b,0,none⟩),.slice m.Aw m.ws.length m.cw,.int .i64 3] w fun e w'=>∃ v,e = .returned v∧NyE wr b (M+13) m.t k ym.t gs gn v w':=by
 have hb:=hH.D.lt
 have hgl:=hH.R.lt
 have hwz:=h.G.size
 have hR:=hH.rf.grown h.G (by omega) (fun g e=>by injection e; omega)
 refine (elements_any b M m.Aw m.ws m.cw 3 w hM (by omega) (by omega) h.D (hR.ws.in_ (by omega)) (fun a ha=>by have:=hR.ws.fr a ha; omega) (by have:=hg.ws.len; omega)).mono ?_
 rintro e w' ⟨v,es,rfl,hge,hel,hO,hd,hgr⟩
 obtain ⟨A,ec,rfl,hS,_⟩:=hO.form2 encE_len
 refine ⟨_,rfl,A,es,ec,rfl,⟨hg.ok,hm,hg.ws,hge,hel,hH.inv,hk⟩,fun x hx=>?_,h.draw hb hd hgr hS⟩
 obtain ⟨y,hy,e⟩:=(hge x hx).1
 rw [e]
 exact name_max (names4' _ (hg.ws.ok y hy).code)
theorem ny_comp (hH:NyH m ym b g gy M k wr) (h:NyE wr b (M+13) m.t k ym.t gs gn v w) :
  Calls Tryz.prog 21 #[.agg (rQv m),.agg pQv,.agg (yQv ym),.slice none 0 0,.bool true,v] w fun e w'=>∃ S Y,e = .returned (.tuple #[.agg S,.agg Y,.int .i64 0])∧NyC wr b (M+13) m.t k ym.t gs gn S Y w':=by
 obtain ⟨A,es,ec,rfl,hp,hz,h4⟩:=h
 have hb:=hH.D.lt
 have hgl:=hH.R.lt
 have hwz:=h4.G.size
 have htk:ym.taken = []:=hH.inv.tk
 have hbg:=hH.bg
 have hgg:=hH.gg
 have hR:=hH.rf.grown h4.G (by omega) (fun g e=>by injection e; omega)
 have hY:=hH.yi.grown h4.G (fun g e=>by injection e; omega)
 have hI:mkI (rQ m) pQ ym [] true es = inY m.t ym.t es:=rfl
 have hel:=hp.el
 have hok:=hp.in_ hz
 rw [← hI] at hok
 have hc:=compute_okF (rQ m) pQ ym none A 0 ec [] es true w (hR.inQ (by omega)) ⟨SliceOf.nil_,SliceOf.nil_,SliceOf.nil_,fun e he=>by cases he⟩ ⟨hY.sl,by rw [htk]; exact SliceOf.nil_⟩ SliceOf.nil_ (h4.E A es rfl) (by omega) hok
 rw [hI] at hc
 refine Calls.mono (args:=#[.agg (rQv m),.agg pQv,.agg (yQv ym),.slice none 0 0,.bool true,.slice A es.length ec]) hc ?_
 rintro e w' ⟨hpost,hfr⟩
 rcases hpost with ⟨_,A2,c2,B2,d2,T2,t2,rfl,h1,h2,_,hbw⟩ | ⟨herr,_⟩
 ·
  obtain ⟨f1,f2⟩:=hfr _ _ _ _ _ _ _ _ _ _ _ _ _ _ _ _ _ rfl
  exact ⟨_,_,rfl,es,A2,B2,hp,hz,⟨c2,d2,T2,t2,rfl,rfl⟩,h4.noel.comp hbw h1 h2 f1 f2⟩
 ·
  exact absurd (hp.err hz) herr
end
theorem sizeSlipY : (Tryz.prog.info? 27).map (·.size) = some 7:=by kernel_rfl
theorem sizeYearY : (Tryz.prog.info? 53).map (·.size) = some 5:=by kernel_rfl
section
variable {P:Program} {ops:Array Oper} {md:Region.Mode} {C:World→Prop} {s:Nat}
theorem M5.share5 {A B D E F : Type} {f:A→B→D→E→F→Act} {Q:Act→World→Prop} {n n0 : Nat} {listed l0 : Array Bool} {a0:Act} {w0:World} {H:A→B→D→E→F→World→Prop}
  (main:(∀ x0 x1 x2 x3 x4 w l,l = listed→H x0 x1 x2 x3 x4 w→M5.wpMix P md ops C s Q n l (f x0 x1 x2 x3 x4) w)→M5.wpMix P md ops C s Q n0 l0 a0 w0) (T:∀ x0 x1 x2 x3 x4 w,H x0 x1 x2 x3 x4 w→M5.wpMix P md ops C s Q n listed (f x0 x1 x2 x3 x4) w) : M5.wpMix P md ops C s Q n0 l0 a0 w0:=main fun _ _ _ _ _ _ _ e h=>e ▸ T _ _ _ _ _ _ h
end
end Go.Proofs.YtlhkojcmcmkmaaaGreat
