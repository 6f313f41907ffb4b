/- Joined texts: CaseIn Plain2 YearP NyS. Conditions: as stated. -/
import Derived.Test.YtlhkojcmcmkmaaaGreatJCmp0
import Derived.Test.YtlhkojcmcmkmaaaGreatJMapS
import Derived.Test.YtlhkojcmcmkmaaaGreatJP32m
import Derived.Test.YtlhkojcmcmkmaaaGreatJGenR
import Derived.Test.YtlhkojcmcmkmaaaGreatJGenP2
import Derived.Test.YtlhkojcmcmkmaaaGreatJGenC
namespace Go.Proofs.YtlhkojcmcmkmaaaGreat
open Go.RowKit
theorem city_name : nameB cCity = true:=by decide +kernel
theorem names4' : ∀ c ∈ codes4,nameB c = true:=by decide +kernel
theorem CaseG.in_ {rm:RulesM} {pm:PersonM} {ym:YearM} {kept es : List Elem} (h:CaseG rm pm ym kept es) (first:Bool) : InOk (mkI rm pm ym kept first es):=by
 obtain ⟨k,hk3,hkc,hp,hy⟩:=h.k
 have hper:=hy.per
 have hylen:=hy.len
 refine ⟨h.r.ok,⟨hp.deps.1,by have:=hp.deps.2; show pm.deps≤20; omega,hp.ds.valid,hp.os.ords,?_,?_,?_,?_⟩,⟨?_,?_,?_,?_,hy.inc.1,?_,?_,?_,hy.taken.valid⟩,?_,?_,?_⟩
 ·
  show (pm.es.map EmpC.v).length≤7
  have:=hp.len
  simp; omega
 ·
  intro e he
  obtain ⟨x,hx,rfl⟩:=List.mem_map.1 he
  have:=hp.bas x hx
  show 0≤x.base∧x.base≤_
  omega
 ·
  intro e he
  obtain ⟨x,hx,rfl⟩:=List.mem_map.1 he
  have:=hp.lens x hx
  show x.l.length≤53
  omega
 ·
  intro e he
  obtain ⟨x,hx,rfl⟩:=List.mem_map.1 he
  intro y hy'
  have:=hp.ear x hx y hy'
  omega
 ·
  show 0≤ym.periods
  omega
 ·
  show ym.periods≤53
  omega
 ·
  show (ym.ins.length:Int) = ym.periods
  omega
 ·
  intro x hx
  have:=hy.ins x hx
  omega
 ·
  show ym.income≤ym.periods * 1000000000
  have:=hy.inc.2
  omega
 ·
  show -(ym.periods * 1000000000)≤ym.withheld
  have:=hy.wh.1
  omega
 ·
  show ym.withheld≤ym.periods * 1000000000
  have:=hy.wh.2
  omega
 ·
  rcases h.kept with e | ⟨r,h0,h1,e⟩
  ·
   show KeptOk kept
   rw [e]
   exact ⟨rfl,by simp,by simp⟩
  ·
   show KeptOk kept
   rw [e]
   refine ⟨recB_iff.2 ⟨by simp,fun x hx=>?_,List.pairwise_singleton _ _⟩,by simp,fun x hx=>?_⟩
   ·
    rw [List.mem_singleton] at hx; subst hx
    exact ⟨city_name,h0,by show r≤_; omega⟩
   ·
    rw [List.mem_singleton] at hx; subst hx
    show r≤_
    omega
 ·
  intro e he
  obtain ⟨x,hx,rfl⟩:=List.mem_map.1 he
  have:=hp.lens x hx
  show (x.l.length:Int) = ym.periods
  omega
 ·
  intro x hx
  obtain ⟨⟨y,hy1,hy2⟩,_⟩:=h.e.1 x hx
  rw [hy2]
  exact name_max (names4' _ (h.r.ws.ok y hy1).code)
theorem CaseG.wages {rm:RulesM} {pm:PersonM} {ym:YearM} {kept es : List Elem} (h:CaseG rm pm ym kept es) : ∀ x ∈ rm.ws,x.code ∈ codes4:=fun x hx=>(h.r.ws.ok x hx).code
end Go.Proofs.YtlhkojcmcmkmaaaGreat
namespace Go.Proofs.YtlhkojcmcmkmaaaGreat
open Go.RowKit
theorem names4 : ∀ c ∈ codes4,nameB c = true:=by decide +kernel
theorem sorted4 : codes4.Pairwise (fun a b=>Op.bytesLess a.toList b.toList = true):=by decide +kernel
theorem GenW.valid {ws:List WageT} (h:GenW 4 ws) : validB ws = true:=by
 have hp:(ws.map (·.code)).Pairwise (fun a b=>Op.bytesLess a.toList b.toList = true):=List.Pairwise.sublist (by simpa [codes4] using h.sub) sorted4
 rw [List.pairwise_map] at hp
 refine validB_yes (by have:=h.len; omega) fun i hi=>?_
 have hx:=h.ok _ (List.getElem_mem hi)
 rw [okAt_eq ws i ws[i] true ?_]
 ·
  have h1:=names4 _ hx.code
  have h2:=hx.lo
  have h3:=hx.hi
  refine decide_eq_true ⟨h1,.inr rfl,?_,?_,by omega,by omega⟩
  ·
   rcases hx.kind with h | h
   ·
    exact .inl h
   ·
    exact .inr h.1
  ·
   rintro ⟨h4,h5⟩
   rcases hx.kind with h | h
   ·
    omega
   ·
    rw [h.2] at h5; cases h5
 ·
  rcases Nat.eq_zero_or_pos i with h0 | h0
  ·
   exact .inl h0
  ·
   right
   refine ⟨ws[i - 1]'(by omega), List.getElem?_eq_getElem (by omega), ?_⟩
   rw [List.pairwise_iff_getElem] at hp
   exact (hp (i - 1) i (by omega) hi (by omega)).symm
theorem GenE.name {ws:List WageT} {es:List Elem} (h:GenW 4 ws) (he:GenE ws es) : ∀ x ∈ es,nameB x.code = true:=fun x hx=>by
 obtain ⟨y,hy,e⟩:=(he x hx).1
 rw [e]; exact names4 _ (h.ok y hy).code
theorem totE_bdd (l:List Elem) (c:List UInt8) (B:Int) (hB:0≤B) (h : ∀ x ∈ l,-B≤x.amount∧x.amount≤B) : -(l.length * B : Int)≤totE l c∧totE l c≤l.length * B:=by
 induction l with
 | nil=>simp [totE]
 | cons a l ih =>
  have h1:=ih (fun x hx=>h x (by simp [hx]))
  have h2:=h a (by simp)
  simp only [totE,List.length_cons]
  have e9:((l.length+1:Nat) : Int) * B = (l.length:Int) * B+B:=by rw [Int.natCast_add,Int.add_mul]; omega
  rw [e9]
  split <;> omega
theorem condS_bdd (p:ByteArray→Bool) (l:List Elem) (B:Int) (hB:0≤B) (h : ∀ x ∈ l,-B≤x.amount∧x.amount≤B) : -(l.length * B : Int)≤condS p l∧condS p l≤l.length * B:=by
 induction l with
 | nil=>simp [condS]
 | cons a l ih =>
  have h1:=ih (fun x hx=>h x (by simp [hx]))
  have h2:=h a (by simp)
  simp only [condS,List.length_cons]
  have e9:((l.length+1:Nat) : Int) * B = (l.length:Int) * B+B:=by rw [Int.natCast_add,Int.add_mul]; omega
  rw [e9]
  split <;> omega
theorem amtB_mk {n:Int} (h1 : -1000000000≤n) (h2:n≤1000000000) : amtB n = true:=by simp [amtB,h1,h2]
theorem preErr_ok {l:List Elem} (hl:l.length≤128) (hn : ∀ x ∈ l,nameB x.code = true) (ha : ∀ x ∈ l,amtB x.amount = true) (hs : ∀ c,amtB (totE l c) = true) : preErr l = 0:=by
 have h7:l.any (fun x=>!nameB x.code) = false:=by
  rw [List.any_eq_false]; intro x hx; simp [hn x hx]
 have h2:l.any (fun x=>!amtB x.amount) = false:=by
  rw [List.any_eq_false]; intro x hx; simp [ha x hx]
 have h4:(sumsP l).any (fun x=>!amtB x.amount) = false:=by
  cases hh:(sumsP l).any (fun x=>!amtB x.amount)
  ·
   rfl
  ·
   obtain ⟨c,_,hc2⟩:=(over_iff l).1 hh
   rw [hs c] at hc2; cases hc2
 simp only [preErr,if_neg (show ¬ 128 < l.length by omega),h7,h2,h4,Bool.false_eq_true,if_false]
theorem GenE.pre {ws:List WageT} {es:List Elem} (h:GenW 4 ws) (he:GenE ws es) (hl:es.length≤100) : preErr es = 0:=by
 have hb:∀ x ∈ es,-600000≤x.amount∧x.amount≤600000:=fun x hx=>by have:=(he x hx).2; omega
 refine preErr_ok (by omega) (he.name h) (fun x hx=>by have:=hb x hx; exact amtB_mk (by omega) (by omega)) fun c=>?_
 have:=totE_bdd es c 600000 (by omega) hb
 exact amtB_mk (by omega) (by omega)
theorem findW_isSome {ws:List WageT} {y:WageT} (hy:y ∈ ws) : (findW ws y.code).isNone = false:=by
 cases hf:findW ws y.code with
 | some z=>rfl
 | none =>
  unfold findW at hf
  rw [List.find?_eq_none] at hf
  exact absurd (by simp [hasC]) (hf y hy)
theorem GenE.ofErr {ws:List WageT} {es:List Elem} (h:GenW 4 ws) (he:GenE ws es) (hl:es.length≤100) : ofErr ws es es = 0:=by
 have hb:∀ x ∈ es,-600000≤x.amount∧x.amount≤600000:=fun x hx=>by have:=(he x hx).2; omega
 have hm:missing ws es = false:=by
  rw [missing,List.any_eq_false]
  intro x hx
  obtain ⟨y,hy,e⟩:=(he x hx).1
  rw [e,findW_isSome hy]; simp
 have ha:amtsB (sumB ws es) = true:=by
  rw [sumB_eq]
  have hc:∀ p,amtB (condS p es) = true:=fun p=>by
   have:=condS_bdd p es 600000 (by omega) hb
   exact amtB_mk (by omega) (by omega)
  simp only [amtsB,hc,Bool.and_self]
 simp only [Go.Proofs.YtlhkojcmcmkmaaaGreat.ofErr,h.valid,he.pre h hl,hm,ha,Bool.true_eq_false,Bool.false_eq_true,if_false,ne_eq,not_true_eq_false]
theorem GenE.append {ws:List WageT} {l m : List Elem} (h1:GenE ws l) (h2:GenE ws m) : GenE ws (l++m):=fun x hx=>by
 rcases List.mem_append.1 hx with h | h
 ·
  exact h1 x h
 ·
  exact h2 x h
end Go.Proofs.YtlhkojcmcmkmaaaGreat
namespace Go.Proofs.YtlhkojcmcmkmaaaGreat
open Go.RowKit
def pY : PersonT:=⟨0,[],[],[]⟩
def rY (r:RulesT) : RulesT:=⟨r.wages,r.schemes,r.tar,4,r.sh,r.recover⟩
def inY (r:RulesT) (y:YearT) (e:List Elem) : NetIn:=⟨rY r,pY,y,[],true,e⟩
def zY : YearT:=⟨0,0,0,[],[]⟩
structure YInv (t:TarT) (k:Nat) (y:YearT) : Prop where
 per:y.periods = k
 len:y.insured.length = k
 ins:∀ x ∈ y.insured,0≤x∧x≤3000000
 inc:0≤y.income∧y.income≤3000000 * k
 tk:y.taken = []
 w0:k = 0→y.withheld = 0
 w1:0 < k→y.withheld = dueN t 4 k y.income
theorem YInv.zero (t:TarT) : YInv t 0 zY:=⟨rfl,rfl,fun x hx=>(by cases hx),⟨by decide,by decide⟩,rfl,fun _=>rfl,fun h=>by omega⟩
theorem pY_ok : PersonOk pY:=⟨by decide,by decide,by decide +kernel,⟨by decide,fun o ho=>(by cases ho),List.Pairwise.nil⟩,by decide,fun e he=>(by cases he),fun e he=>(by cases he),fun e he=>(by cases he)⟩
theorem recB_nil : recB [] = true:=by decide +kernel
theorem addR_nil : addR [] [] = []:=by decide +kernel
theorem takeR_nil (b:Bool) (base av : Int) (y:List Elem) : takeR [] b base av y = []:=by
 unfold takeR
 split
 ·
  rfl
 ·
  rfl
theorem takeE_nil {base av : Int} (h0:0≤base) (h1:base≤1000000000) (h2:0≤av) (h3:av≤1000000000) : takeE [] base av [] = 0:=by
 have e1:validD [] = true:=by decide +kernel
 have e3:inB base 1000000000 = true:=inB_iff.2 ⟨h0,h1⟩
 have e4:inB av 1000000000 = true:=inB_iff.2 ⟨h2,h3⟩
 simp only [takeE,e1,recB_nil,e3,e4,Bool.true_eq_false,if_false]
theorem dueY_bd {t:TarT} (h:TarOk t) {k:Int} (h1:0≤k) (h2:k≤4) {x:Int} (hx:0≤x) : 0≤dueN t 4 k x∧dueN t 4 k x≤x+100 :=
 tax30_bd (scaleN_ok h.brs h1 (by omega) h2) h.u0 h.u1 (Int.ediv_nonneg (Int.mul_nonneg h.a0 h1) (by omega)) (Int.ediv_nonneg (Int.mul_nonneg h.c0 h1) (by omega)) hx
theorem YInv.wh {t:TarT} (ht:TarOk t) {k:Nat} (hk:k≤4) {y:YearT} (h:YInv t k y) : 0≤y.withheld∧y.withheld≤3000000 * k+100:=by
 rcases Nat.eq_zero_or_pos k with h0 | h0
 ·
  rw [h.w0 h0]; omega
 ·
  rw [h.w1 h0]
  have:=dueY_bd ht (k:=k) (by omega) (by omega) h.inc.1
  have:=h.inc.2
  omega
theorem YInv.ok {t:TarT} (ht:TarOk t) {k:Nat} (hk:k≤4) {y:YearT} (h:YInv t k y) : YearOk y:=by
 have hw:=h.wh ht hk
 have hp:=h.per
 refine ⟨by omega,by omega,by rw [h.len,h.per],fun x hx=>by have:=h.ins x hx; omega,h.inc.1,?_,?_,?_,by rw [h.tk]; exact recB_nil⟩
 ·
  have:=h.inc.2
  rw [hp]
  omega
 ·
  rw [hp]; omega
 ·
  rw [hp]
  rcases Nat.eq_zero_or_pos k with h0 | h0
  ·
   rw [h.w0 h0]; omega
  ·
   omega
theorem joint_one (s:SchT) (ins:List Int) (x:Int) : jointV s ins.length [(ins,x)] = nextN s (ins++[x]):=by
 have key:∀ l:List Int,addL (List.replicate l.length 0) l = l:=by
  intro l
  induction l with
  | nil=>rfl
  | cons a l ih =>
   show (0+a) :: addL (List.replicate l.length 0) l = a :: l
   rw [ih,Int.zero_add]
 unfold jointV sumsJ
 simp only [List.foldl_cons,List.foldl_nil]
 have:=key (ins++[x])
 rw [List.length_append,List.length_singleton] at this
 rw [this]
theorem next_small {s:SchT} {l:List Int} (hs:SchOk s) (hne:l ≠ []) (h : ∀ x ∈ l,0≤x) (hl:l.length≤54) (hs2:sumI l≤900000000) : overJ (nextN s l) = false:=by
 obtain ⟨c0,c1⟩:=cumN_bd hs h hl
 have h':∀ x ∈ l.dropLast,0≤x:=fun x hx=>h x ((List.dropLast_sublist l).subset hx)
 obtain ⟨d0,d1⟩:=cumN_bd hs h' (by simp; omega)
 obtain ⟨e0,_⟩:=cumN_drop hs h hne
 have hc:cumN s l≤900000000:=by
  have:=insF_le (s:=s) h
  unfold cumN
  omega
 obtain ⟨_,_,f1,f2,f3,f4,f5⟩:=levy_sizes hs c0 (by omega:cumN s l≤500000000000)
 obtain ⟨_,_,g1,g2,g3,g4,g5⟩:=levy_sizes hs d0 (by omega:cumN s l.dropLast≤500000000000)
 simp only [overJ,nextN,subLv,f1,g1,Bool.or_eq_false_iff,decide_eq_false_iff_not]
 omega
theorem ofErr_sums {ws:List WageT} {es:List Elem} (h:ofErr ws es es = 0) : ofErr ws es (sumsP es) = 0:=by
 rw [ofErr,missing_sums,sumB_sums]
 exact h
structure Per (r:RulesT) (k:Nat) (y:YearT) (e:List Elem) : Prop where
 ro:RulesOk r
 m:r.tar.method = 3
 ws:GenW 4 r.wages
 ge:GenE r.wages e
 el:e.length≤3
 yi:YInv r.tar k y
 k4:k < 4
section
variable {r:RulesT} {k:Nat} {y:YearT} {e:List Elem}
theorem Per.in_ (h:Per r k y e) (hz : ∀ x ∈ e,x.code.size≤maxLen) : InOk (inY r y e) :=
 ⟨⟨h.ro.wages,h.ro.nsch,h.ro.sch,h.ro.asc,h.ro.tar,(by show (1:Int)≤4; omega),(by show (4:Int)≤53; omega),h.ro.sh,h.ro.v0,h.ro.v1⟩,pY_ok,h.yi.ok h.ro.tar (by have:=h.k4; omega),⟨recB_nil,(by show (0:Nat)≤16; omega),fun x hx=>(by cases hx)⟩,fun e he=>(by cases he),hz⟩
theorem Per.bases (h:Per r k y e) : ((-1800000≤(inY r y e).b.c∧(inY r y e).b.c≤1800000)∧(-1800000≤(inY r y e).b.t∧(inY r y e).b.t≤1800000)∧(-1800000≤(inY r y e).b.i∧(inY r y e).b.i≤1800000)∧-1800000≤(inY r y e).b.a∧(inY r y e).b.a≤1800000):=by
 have hb:∀ x ∈ e,-600000≤x.amount∧x.amount≤600000:=fun x hx=>by have:=(h.ge x hx).2; omega
 have hl:=h.el
 have hc:∀ p,-1800000≤condS p e∧condS p e≤1800000:=fun p=>by
  have:=condS_bdd p e 600000 (by omega) hb
  omega
 have e1:(inY r y e).b = sumB r.wages (sumsP e):=rfl
 rw [e1,sumB_sums,sumB_eq]
 exact ⟨hc _,hc _,hc _,hc _⟩
theorem Per.pre (h:Per r k y e) : Pre2 (inY r y e):=by
 obtain ⟨hc,_⟩:=h.bases
 have hel:=h.el
 refine ⟨?_,ofErr_sums (ws:=r.wages) (es:=e) (h.ge.ofErr h.ws (by omega)),?_⟩
 ·
  show y.periods < 4
  rw [h.yi.per]
  have:=h.k4
  omega
 ·
  show takeE [] (max (inY r y e).b.c 0) (max (inY r y e).b.c 0) y.taken = 0
  rw [h.yi.tk]
  exact takeE_nil (by omega) (by omega) (by omega) (by omega)
theorem Per.over (h:Per r k y e) : ∀ s ∈ (inY r y e).r.schemes,overJ (jointV s (inY r y e).y.insured.length (inY r y e).jobs) = false:=by
 intro s hs
 obtain ⟨_,_,hi,_⟩:=h.bases
 have e1:(inY r y e).jobs = [(y.insured,(inY r y e).insured)]:=rfl
 have e2:(inY r y e).insured = max (inY r y e).b.i 0:=rfl
 have hl:=h.yi.len
 have hk:=h.k4
 rw [e1,show (inY r y e).y.insured.length = y.insured.length from rfl,joint_one]
 have hm:∀ x ∈ y.insured++[(inY r y e).insured],0≤x∧x≤3000000:=by
  intro x hx
  rcases List.mem_append.1 hx with hx | hx
  ·
   exact h.yi.ins x hx
  ·
   rw [List.mem_singleton] at hx; subst hx; omega
 have hs2:=(sumI_bd hm).2
 rw [List.length_append,List.length_singleton,hl] at hs2
 exact next_small (h.ro.sch s hs) (by simp) (fun x hx=>(hm x hx).1) (by rw [List.length_append,List.length_singleton]; omega) (by omega)
theorem Per.before (I:NetIn) (h:I.p = pY) : I.before = []:=by unfold NetIn.before; rw [h]; exact takeR_nil _ _ _ _
theorem Per.bnil (r:RulesT) (y:YearT) (e:List Elem) : (inY r y e).before = []:=Per.before _ rfl
theorem Per.lev (h:Per r k y e) (hz : ∀ x ∈ e,x.code.size≤maxLen) : (0≤(inY r y e).levies∧(inY r y e).levies≤12000000000)∧0≤(inY r y e).reliefTo (inY r y e).r.schemes:=by
 obtain ⟨_,_,hi,_⟩:=h.bases
 have e2:(inY r y e).insured = max (inY r y e).b.i 0:=rfl
 have hp:=h.pre.per
 have hb:=levies_bd (I:=inY r y e) (l:=(inY r y e).r.schemes) (k:=(inY r y e).r.schemes.length) h.ro.nsch (fun s hs=>by
  rw [List.take_length] at hs
  exact ((h.in_ hz).levy hp (by omega) hs (h.over s hs)).1)
 rw [List.take_length] at hb
 exact ⟨hb.1,hb.2.1⟩
theorem Per.inc (h:Per r k y e) (hz : ∀ x ∈ e,x.code.size≤maxLen) : 0≤(inY r y e).income∧(inY r y e).income≤1800000:=by
 obtain ⟨_,ht,_⟩:=h.bases
 have hr:=(h.lev hz).2
 have e1:(inY r y e).income = max ((inY r y e).b.t - sumE (inY r y e).before - (inY r y e).reliefTo (inY r y e).r.schemes) 0:=rfl
 rw [Per.bnil] at e1
 have e0:sumE ([] : List Elem) = 0:=rfl
 rw [e0] at e1
 omega
theorem Per.tax (h:Per r k y e) : (inY r y e).tax = dueN r.tar 4 ((k:Int)+1) (y.income+(inY r y e).income) - y.withheld:=by
 show withN r.tar 4 y.periods y.income y.withheld (inY r y e).income = _
 unfold withN
 rw [h.m,if_neg (by decide),if_neg (by decide),h.yi.per]
theorem Per.t1 (h:Per r k y e) : (inY r y e).taken1 = []:=by
 show addR y.taken (inY r y e).before = []
 rw [h.yi.tk,Per.bnil]; exact addR_nil
theorem Per.after (r:RulesT) (y:YearT) (e:List Elem) : (inY r y e).after = []:=takeR_nil _ _ _ _
theorem Per.t2 (h:Per r k y e) : (inY r y e).taken2 = []:=by
 show addR (inY r y e).taken1 (inY r y e).after = []
 rw [h.t1,Per.after]; exact addR_nil
theorem Per.next (h:Per r k y e) (hz : ∀ x ∈ e,x.code.size≤maxLen) : YInv r.tar (k+1) (inY r y e).next:=by
 obtain ⟨_,_,hi,_⟩:=h.bases
 have hn:=h.inc hz
 have hy:=h.yi.inc
 have e2:(inY r y e).insured = max (inY r y e).b.i 0:=rfl
 refine ⟨?_,?_,?_,?_,h.t2,fun h=>by omega,fun _=>?_⟩
 ·
  show y.periods+1 = ((k+1:Nat) : Int)
  rw [h.yi.per]; omega
 ·
  show (y.insured++[(inY r y e).insured]).length = k+1
  rw [List.length_append,h.yi.len,List.length_singleton]
 ·
  intro x hx
  rcases List.mem_append.1 (show x ∈ y.insured++[(inY r y e).insured] from hx) with hx | hx
  ·
   exact h.yi.ins x hx
  ·
   rw [List.mem_singleton] at hx; subst hx; omega
 ·
  show 0≤y.income+(inY r y e).income∧y.income+(inY r y e).income≤3000000 * ((k+1:Nat) : Int)
  omega
 ·
  show y.withheld+(inY r y e).tax = dueN r.tar 4 ((k+1:Nat) : Int) (y.income+(inY r y e).income)
  rw [h.tax,show ((k+1:Nat) : Int) = (k:Int)+1 by omega]
  omega
end
section
variable {r:RulesT} {n:Int}
end
end Go.Proofs.YtlhkojcmcmkmaaaGreat
namespace Go.Proofs.YtlhkojcmcmkmaaaGreat
open Go.RowKit
def zSlip : Array Value:=#[.int .i64 0,.int .i64 0,.int .i64 0,.int .i64 0,.int .i64 0,.int .i64 0,.slice none 0 0]
def zYear : Array Value:=#[.int .i64 0,.int .i64 0,.int .i64 0,.slice none 0 0,.slice none 0 0]
structure NySt (wr:World) (b M : Nat) (el:Option (Option Addr × List Elem)) (o:Option (Option Addr × List LineT × Option Addr × List Int)) (gs gn : Option Nat) (cs cn : Array Value) (w:World) : Prop where
 G:wr.grownBy w (some b)
 D:DeckIn w b M
 E:∀ A es,el = some (A,es)→SliceOf encE 2 w w.heap.size A es
 L:∀ A ls B ins,o = some (A,ls,B,ins)→SliceOf encL 3 w w.heap.size A ls∧(∀ a,A = some a→wr.heap.size≤a.block∧(ls ≠ []→gs ≠ some a.block∧gn ≠ some a.block))
 I:∀ A ls B ins,o = some (A,ls,B,ins)→SliceOf encI 1 w w.heap.size B ins∧(∀ a,B = some a→wr.heap.size≤a.block∧(ins ≠ []→gs ≠ some a.block∧gn ≠ some a.block))
 S:∀ g,gs = some g→Blk w g 27 cs∧wr.heap.size≤g∧gn ≠ some g
 N:∀ g,gn = some g→Blk w g 53 cn∧wr.heap.size≤g
section
variable {wr w w':World} {b M:Nat} {el:Option (Option Addr × List Elem)} {o:Option (Option Addr × List LineT × Option Addr × List Int)} {gs gn:Option Nat} {cs cn:Array Value}
theorem NySt.adv (h:NySt wr b M el o gs gn cs cn w) (hb:Below w.heap.size w w') : NySt wr b M el o gs gn cs cn w' :=
 ⟨only_adv h.G hb,h.D.bel hb,fun A es e=>(h.E A es e).adv hb,fun A ls B ins e=>⟨(h.L A ls B ins e).1.adv hb,(h.L A ls B ins e).2⟩,fun A ls B ins e=>⟨(h.I A ls B ins e).1.adv hb,(h.I A ls B ins e).2⟩,fun g e=>⟨(h.S g e).1.adv hb,(h.S g e).2⟩,fun g e=>⟨(h.N g e).1.adv hb,(h.N g e).2⟩⟩
end
theorem quiet_load_blk {P:Program} {ops:Array Oper} {C:World→Prop} {Q:Act→Prop} {o:Oper} {rest:List Oper} {a:Act} (ty:TypeId) (x:Operand) (g:Nat) {t:TypeId} {cs:Array Value} {d:TypeDesc} (hgd:o.guard = none) (ho:o.op = .load ty x) (hx:a.eval x = .pointer (some ⟨g,0,none⟩)) (hB : ∀ w,C w→Blk w g t cs)
  (hu:P.underlying ty = some d) (hd:d.isRow = true) (hi:(P.info? ty).map (·.size) = some cs.size) (h:wpQuiet P ops C Q rest (a.put o.dst (.agg cs))) : wpQuiet P ops C Q (o :: rest) a:=by
 unfold wpQuiet
 rw [if_pos (by simp [Region.wanted,hgd])]
 refine ⟨.agg cs,fun w hw=>?_,h⟩
 have hr:=run_loadVar_mid w g 0 ty cs.toList d (hB w hw).rangeAt hu hd (by simpa using hi)
 rw [Array.toArray_toList] at hr
 unfold Oper.quietAt execOp
 simp only [ho,hx,Instr.loadAt,Instr.sureAddr,Sem.run_bind,Sem.run_pure,Result.andThen_ok,hr]
 exact ⟨rfl,rfl⟩
def NyE (wr:World) (b M : Nat) (r:RulesT) (k:Nat) (y:YearT) (gs gn : Option Nat) (v:Value) (w:World) : Prop :=
 ∃ A es ec,v = .slice A es.length ec∧Per r k y es∧(∀ x ∈ es,x.code.size≤maxLen)∧NySt wr b M (some (A,es)) none gs gn zSlip zYear w
def NyV (I:NetIn) (S Y : Array Value) (A B : Option Addr) : Prop :=
 ∃ c d T t,S = #[.int .i64 I.b.g,.int .i64 I.b.c,.int .i64 I.b.t,.int .i64 I.b.i,.int .i64 I.b.a,.int .i64 I.legal,.slice A I.lines.length c]∧Y = #[.int .i64 I.next.periods,.int .i64 I.next.income,.int .i64 I.next.withheld,.slice B I.next.insured.length d,.slice T I.next.taken.length t]
def NyC (wr:World) (b M : Nat) (r:RulesT) (k:Nat) (y:YearT) (gs gn : Option Nat) (S Y : Array Value) (w:World) : Prop :=
 ∃ es A B,Per r k y es∧(∀ x ∈ es,x.code.size≤maxLen)∧NyV (inY r y es) S Y A B∧NySt wr b M none (some (A,(inY r y es).lines,B,(inY r y es).next.insured)) gs gn zSlip zYear w
section
variable {wr w w':World} {b M:Nat} {r:RulesT} {k:Nat} {y:YearT} {gs gn:Option Nat} {v:Value} {S Y:Array Value}
theorem NyE.adv (h:NyE wr b M r k y gs gn v w) (hb:Below w.heap.size w w') : NyE wr b M r k y gs gn v w':=by obtain ⟨A,es,ec,h1,h2,h3,h4⟩:=h; exact ⟨A,es,ec,h1,h2,h3,h4.adv hb⟩
theorem NyC.adv (h:NyC wr b M r k y gs gn S Y w) (hb:Below w.heap.size w w') : NyC wr b M r k y gs gn S Y w':=by obtain ⟨es,A,B,h1,h2,h3,h4⟩:=h; exact ⟨es,A,B,h1,h2,h3,h4.adv hb⟩
theorem NyE.C (h:NyE wr b M r k y gs gn v w) : wr.grownBy w (some b):=by obtain ⟨A,es,ec,h1,h2,h3,h4⟩:=h; exact h4.G
theorem NyC.C (h:NyC wr b M r k y gs gn S Y w) : wr.grownBy w (some b):=by obtain ⟨es,A,B,h1,h2,h3,h4⟩:=h; exact h4.G
end
def pQ : PersonM:=⟨0,none,0,[],none,0,[],none,0,[]⟩
def yQv (y:YearM) : Array Value:=#[.int .i64 y.periods,.int .i64 y.income,.int .i64 y.withheld,.slice y.Ai y.ins.length y.ci,.slice y.At y.taken.length y.ct]
structure RulesB (m:RulesM) (w:World) (lo hi : Nat) : Prop where
 ws:FrB encW 6 w lo hi m.Aw m.ws
 ss:FrB encSch 8 w lo hi m.As m.ss
 brs:FrB encBr 2 w lo hi m.tm.Ab m.tm.t.brs
 rows:FrB encRw 2 w lo hi m.tm.Ar m.tm.t.rows
section
variable {m:RulesM} {w w':World} {lo hi:Nat}
theorem RulesB.grown {row:Option Nat} (h:RulesB m w lo hi) (hg:w.grownBy w' row) (_hhi:hi≤w.heap.size) (hr : ∀ g,row = some g→g < lo ∨ hi≤g) : RulesB m w' lo hi:=⟨h.ws.grown hg hr,h.ss.grown hg hr,h.brs.grown hg hr,h.rows.grown hg hr⟩
theorem RulesB.in_ (h:RulesB m w lo hi) (_hhi:hi≤w.heap.size) : m.In w:=⟨h.ws.in_,h.ss.in_,⟨h.brs.in_,h.rows.in_⟩⟩
end
section
variable {m:RulesM} {ym:YearM} {b g gy M k:Nat} {wr w:World} {gs gn:Option Nat} {v:Value}
end
section
variable {P:Program} {ops:Array Oper} {md:Region.Mode} {C:World→Prop} {s:Nat}
end
end Go.Proofs.YtlhkojcmcmkmaaaGreat
