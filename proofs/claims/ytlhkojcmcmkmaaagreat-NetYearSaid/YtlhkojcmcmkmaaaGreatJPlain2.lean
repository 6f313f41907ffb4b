/- Joined texts: Plain2 OrdP. Conditions: as stated. -/
import Derived.Test.YtlhkojcmcmkmaaaGreatJRec
import Derived.Test.YtlhkojcmcmkmaaaGreatJOf
import Derived.Test.YtlhkojcmcmkmaaaGreatJGenP2
namespace Go.Proofs.YtlhkojcmcmkmaaaGreat
open Go.RowKit
theorem names4 : ∀ c ∈ codes4,nameB c = true:=by decide +kernel
theorem GenE.name {ws:List WageT} {es:List Elem} (h:GenW 4 ws) (he:GenE ws es) : ∀ x ∈ es,nameB x.code = true:=fun x hx=>by
 obtain ⟨y,hy,e⟩:=(he x hx).1
 rw [e]; exact names4 _ (h.ok y hy).code
theorem totE_bdd (l:List Elem) (c:List UInt8) (B:Int) (hB:0≤B) (h : ∀ x ∈ l,-B≤x.amount∧x.amount≤B) : -(l.length * B : Int)≤totE l c∧totE l c≤l.length * B:=by
 induction l with
 | nil=>simp [totE]
 | cons a l ih =>
  have h1:=ih (fun x hx=>h x (by simp [hx]))
  have h2:=h a (by simp)
  simp only [totE,List.length_cons]
  have e9:((l.length+1:Nat) : Int) * B = (l.length:Int) * B+B:=by rw [Int.natCast_add,Int.add_mul]; omega
  rw [e9]
  split <;> omega
theorem amtB_mk {n:Int} (h1 : -1000000000≤n) (h2:n≤1000000000) : amtB n = true:=by simp [amtB,h1,h2]
theorem preErr_ok {l:List Elem} (hl:l.length≤128) (hn : ∀ x ∈ l,nameB x.code = true) (ha : ∀ x ∈ l,amtB x.amount = true) (hs : ∀ c,amtB (totE l c) = true) : preErr l = 0:=by
 have h7:l.any (fun x=>!nameB x.code) = false:=by
  rw [List.any_eq_false]; intro x hx; simp [hn x hx]
 have h2:l.any (fun x=>!amtB x.amount) = false:=by
  rw [List.any_eq_false]; intro x hx; simp [ha x hx]
 have h4:(sumsP l).any (fun x=>!amtB x.amount) = false:=by
  cases hh:(sumsP l).any (fun x=>!amtB x.amount)
  ·
   rfl
  ·
   obtain ⟨c,_,hc2⟩:=(over_iff l).1 hh
   rw [hs c] at hc2; cases hc2
 simp only [preErr,if_neg (show ¬ 128 < l.length by omega),h7,h2,h4,Bool.false_eq_true,if_false]
theorem GenE.append {ws:List WageT} {l m : List Elem} (h1:GenE ws l) (h2:GenE ws m) : GenE ws (l++m):=fun x hx=>by
 rcases List.mem_append.1 hx with h | h
 ·
  exact h1 x h
 ·
  exact h2 x h
end Go.Proofs.YtlhkojcmcmkmaaaGreat
namespace Go.Proofs.YtlhkojcmcmkmaaaGreat
open Go.RowKit
theorem sumsP_congr {l m : List Elem} (hk : ∀ c,keyE l c = keyE m c) (ht : ∀ c,totE l c = totE m c) : sumsP l = sumsP m:=by
 refine sorted_ext (sumsP_sorted l) (sumsP_sorted m) fun x=>?_
 rw [mem_sorted (sumsP_sorted l),mem_sorted (sumsP_sorted m),sumsP_key,sumsP_key,sumsP_tot,sumsP_tot,hk,ht]
theorem keyE_cons (x:Elem) (l:List Elem) (c:List UInt8) : keyE (x :: l) c = (decide (x.code.data.toList = c) || keyE l c):=rfl
theorem totE_cons (x:Elem) (l:List Elem) (c:List UInt8) : totE (x :: l) c = (if x.code.data.toList = c then x.amount else 0)+totE l c:=rfl
theorem turn_sums {es r : List Elem} {y:Elem} {k:Nat} (part:Int) (h:es.drop k++es.take k = y :: r) : sumsP (⟨y.code,y.amount - part⟩ :: (r++[⟨y.code,part⟩])) = sumsP es:=by
 have hk:∀ c,keyE es c = keyE (y :: r) c:=by
  intro c
  rw [← h,keyE_append,Bool.or_comm,← keyE_append,List.take_append_drop]
 have ht:∀ c,totE es c = totE (y :: r) c:=by
  intro c
  rw [← h,totE_append,Int.add_comm,← totE_append,List.take_append_drop]
 refine sumsP_congr (fun c=>?_) (fun c=>?_)
 ·
  rw [hk,keyE_cons,keyE_cons,keyE_append,keyE_cons]
  cases decide (y.code.data.toList = c) <;> simp [keyE]
 ·
  rw [ht,totE_cons,totE_cons,totE_append,totE_cons]
  by_cases hc:y.code.data.toList = c
  ·
   simp only [hc,if_true,totE]; omega
  ·
   simp only [hc,if_false,totE]; omega
theorem turn_mem {es r : List Elem} {y:Elem} {k:Nat} (part:Int) (h:es.drop k++es.take k = y :: r) {x:Elem} (hx:x ∈ (⟨y.code,y.amount - part⟩ :: (r++[⟨y.code,part⟩]) : List Elem)) : ∃ z ∈ es,x.code = z.code∧(x.amount = z.amount ∨ x.amount = z.amount - part ∨ x.amount = part):=by
 have hm:∀ z,z ∈ y :: r→z ∈ es:=by
  intro z hz
  rw [← h] at hz
  rcases List.mem_append.1 hz with hz | hz
  ·
   exact List.mem_of_mem_drop hz
  ·
   exact List.mem_of_mem_take hz
 rcases List.mem_cons.1 hx with rfl | hx
 ·
  exact ⟨y,hm y (by simp),rfl,.inr (.inl rfl)⟩
 ·
  rcases List.mem_append.1 hx with hx | hx
  ·
   exact ⟨x,hm x (by simp [hx]),rfl,.inl rfl⟩
  ·
   rw [List.mem_singleton] at hx; subst hx
   exact ⟨y,hm y (by simp),rfl,.inr (.inr rfl)⟩
theorem mk_order (r:RulesT) (p:PersonT) (y:YearT) (kept:List Elem) (first:Bool) {e e' : List Elem} (h:sumsP e' = sumsP e) (ho:ofErr r.wages e' (sumsP e') = ofErr r.wages e (sumsP e)) :
  (⟨r,p,y,kept,first,e'⟩ : NetIn).err = (⟨r,p,y,kept,first,e⟩ : NetIn).err∧(⟨r,p,y,kept,first,e'⟩ : NetIn).lines = (⟨r,p,y,kept,first,e⟩ : NetIn).lines∧(⟨r,p,y,kept,first,e'⟩ : NetIn).next = (⟨r,p,y,kept,first,e⟩ : NetIn).next∧(⟨r,p,y,kept,first,e'⟩ : NetIn).b = (⟨r,p,y,kept,first,e⟩ : NetIn).b∧(⟨r,p,y,kept,first,e'⟩ : NetIn).legal = (⟨r,p,y,kept,first,e⟩ : NetIn).legal:=by
 have key:∀ s,sumsP e' = s→sumsP e = s→ofErr r.wages e' s = ofErr r.wages e s→(⟨r,p,y,kept,first,e'⟩ : NetIn).err = (⟨r,p,y,kept,first,e⟩ : NetIn).err∧(⟨r,p,y,kept,first,e'⟩ : NetIn).lines = (⟨r,p,y,kept,first,e⟩ : NetIn).lines∧(⟨r,p,y,kept,first,e'⟩ : NetIn).next = (⟨r,p,y,kept,first,e⟩ : NetIn).next∧(⟨r,p,y,kept,first,e'⟩ : NetIn).b = (⟨r,p,y,kept,first,e⟩ : NetIn).b∧(⟨r,p,y,kept,first,e'⟩ : NetIn).legal = (⟨r,p,y,kept,first,e⟩ : NetIn).legal:=by
  intro s h1 h2 h3
  refine ⟨?_,?_,?_,?_,?_⟩
  ·
   simp only [NetIn.err,NetIn.b,NetIn.base,NetIn.before,NetIn.left1,NetIn.insured,NetIn.jobs,NetIn.levyOf,NetIn.overs,NetIn.leviesTo,NetIn.reliefTo,NetIn.levies,NetIn.income,NetIn.left2,NetIn.tax,NetIn.left3,NetIn.net,NetIn.attached,NetIn.left4,NetIn.taken1,NetIn.after,h1,h2,h3]
  ·
   simp only [NetIn.lines,NetIn.b,NetIn.merged,NetIn.earn,NetIn.bene,NetIn.base,NetIn.before,NetIn.left1,NetIn.insured,NetIn.jobs,NetIn.levyOf,NetIn.ownTo,NetIn.emplTo,NetIn.leviesTo,NetIn.reliefTo,NetIn.levies,NetIn.income,NetIn.left2,NetIn.tax,NetIn.left3,NetIn.net,NetIn.attached,NetIn.left4,NetIn.taken1,NetIn.after,NetIn.left5,h1,h2]
  ·
   simp only [NetIn.next,NetIn.b,NetIn.base,NetIn.before,NetIn.left1,NetIn.insured,NetIn.jobs,NetIn.levyOf,NetIn.leviesTo,NetIn.reliefTo,NetIn.levies,NetIn.income,NetIn.left2,NetIn.tax,NetIn.left3,NetIn.net,NetIn.attached,NetIn.left4,NetIn.taken1,NetIn.after,NetIn.taken2,h1,h2]
  ·
   simp only [NetIn.b,h1,h2]
  ·
   simp only [NetIn.legal,NetIn.b,NetIn.base,NetIn.before,NetIn.insured,NetIn.jobs,NetIn.levyOf,NetIn.leviesTo,NetIn.reliefTo,NetIn.levies,NetIn.income,NetIn.tax,h1,h2]
 exact key (sumsP e) h rfl (by rw [h] at ho; exact ho)
theorem preErr_gen {ws:List WageT} {es:List Elem} (hv:validB ws = true) (hl:es.length≤6) (hc : ∀ x ∈ es,∃ y ∈ ws,x.code = y.code) (hb : ∀ x ∈ es,-700000≤x.amount∧x.amount≤700000) : preErr es = 0:=by
 have hn:∀ x ∈ es,nameB x.code = true:=by
  intro x hx
  obtain ⟨y,hy,e⟩:=hc x hx
  obtain ⟨i,hi,rfl⟩:=List.getElem_of_mem hy
  have h1:okAt ws i ws[i] = true:=by
   unfold validB at hv
   simp only [Bool.and_eq_true,decide_eq_true_eq] at hv
   exact hv.2 i hi
  rw [e]
  simp only [okAt,Bool.and_eq_true] at h1
  exact h1.1.1.1.1
 refine preErr_ok (by omega) hn (fun x hx=>amtB_mk (by have:=(hb x hx).1; omega) (by have:=(hb x hx).2; omega)) fun c=>?_
 have:=totE_bdd es c 700000 (by omega) hb
 refine amtB_mk ?_ ?_
 ·
  have:(es.length:Int)≤6:=by omega
  omega
 ·
  have:(es.length:Int)≤6:=by omega
  omega
theorem turn_of {ws:List WageT} {es r : List Elem} {y:Elem} {k:Nat} (part:Int) (h:es.drop k++es.take k = y :: r) (hv:validB ws = true) (hg:GenE ws es) (hl:es.length≤5) (p0:0≤part) (p1:part < 1000) :
  ofErr ws (⟨y.code,y.amount - part⟩ :: (r++[⟨y.code,part⟩])) (sumsP es) = ofErr ws es (sumsP es):=by
 have h1:preErr es = 0:=preErr_gen hv (by omega) (fun x hx=>(hg x hx).1) (fun x hx=>by have:=(hg x hx).2; omega)
 have hlen:=congrArg List.length h
 rw [List.length_append,List.length_drop,List.length_take,List.length_cons] at hlen
 have h2:preErr (⟨y.code,y.amount - part⟩ :: (r++[⟨y.code,part⟩])) = 0:=by
  refine preErr_gen hv (by simp only [List.length_cons,List.length_append,List.length_nil]; omega) (fun x hx=>?_) (fun x hx=>?_)
  ·
   obtain ⟨z,hz,e,_⟩:=turn_mem part h hx
   rw [e]; exact (hg z hz).1
  ·
   obtain ⟨z,hz,_,e⟩:=turn_mem part h hx
   have:=(hg z hz).2
   omega
 rw [ofErr,ofErr,h1,h2]
end Go.Proofs.YtlhkojcmcmkmaaaGreat
