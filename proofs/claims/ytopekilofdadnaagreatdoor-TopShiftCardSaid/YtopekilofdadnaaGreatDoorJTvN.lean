/- Joined texts: TvN TmN TsN TdN TfN TbN Data2. Conditions: as stated. -/
import Derived.Test.YtopekilofdadnaaGreatDoorJData
import Derived.Test.YtopekilofdadnaaGreatDoorJTeN
namespace Go.Proofs.YtopekilofdadnaaGreatDoor
open Go.RowKit
def cov (K:Int→Prop) (l:List IvT) : Prop:=∀ x ∈ l,∀ m,x.f≤m→m < x.t→K m
theorem cov_join {K:Int→Prop} {l:List IvT} {v:IvT} (h:cov K l) (hv : ∀ m,v.f≤m→m < v.t→K m) : cov K (joinN l v):=by
 unfold joinN
 split
 ·
  exact h
 ·
  rcases List.eq_nil_or_concat l with rfl | ⟨r,u,rfl⟩
  ·
   intro x hx
   have:x = v:=by simpa using hx
   subst this
   exact hv
  ·
   rw [List.concat_eq_append] at h ⊢
   simp only [List.getLast?_append,List.getLast?_singleton,Option.some_or]
   split
   ·
    rename_i e
    rw [List.dropLast_concat]
    intro x hx m h1 h2
    rcases List.mem_append.1 hx with hx | hx
    ·
     exact h x (by simp [hx]) m h1 h2
    ·
     rw [List.mem_singleton] at hx
     subst hx
     rcases Int.lt_or_le m u.t with h3 | h3
     ·
      exact h u (by simp) m h1 h3
     ·
      exact hv m (by omega) h2
   ·
    intro x hx
    rcases List.mem_append.1 hx with hx | hx
    ·
     exact h x hx
    ·
     rw [List.mem_singleton] at hx
     subst hx
     exact hv
theorem cov_cut {K:Int→Prop} {t:Int} : ∀ {os r : List IvT} {f:Int},cov K r→(∀ m,f≤m→m < t→K m)→(∀ o ∈ os,f≤o.t)→os.Pairwise (fun a b=>a.t≤b.t)→cov K (cutN t os (r,f)).1∧∀ m,(cutN t os (r,f)).2≤m→m < t→K m
 | [],r,f,h,hk,_,_=>⟨h,hk⟩
 | o :: os,r,f,h,hk,ho,hs=>by
  have hs':=List.pairwise_cons.1 hs
  show cov K (if o.f < t then cutN t os (joinN r ⟨f,o.f⟩,o.t) else (r,f)).1∧∀ m,(if o.f < t then cutN t os (joinN r ⟨f,o.f⟩,o.t) else (r,f)).2≤m→m < t→K m
  split
  ·
   exact cov_cut (cov_join h fun m h1 h2=>hk m h1 (by have:m < o.f:=h2; omega)) (fun m h1 h2=>hk m (by have:=ho o (by simp); omega) h2) (fun x hx=>hs'.1 x hx) hs'.2
  ·
   exact ⟨h,hk⟩
theorem dropN_suffix (f:Int) : ∀ (l:List IvT),(dropN f l).Sublist l∧(∀ x r,dropN f l = x :: r→f < x.t)
 | []=>⟨List.Sublist.slnil,fun x r h=>by cases h⟩
 | o :: os=>by
  obtain ⟨h1,h2⟩:=dropN_suffix f os
  rw [dropN]
  split
  ·
   exact ⟨h1.cons _,h2⟩
  ·
   refine ⟨List.Sublist.refl _,fun x r h=>?_⟩
   injection h with h3 _
   subst h3
   omega
theorem cov_without {K:Int→Prop} : ∀ {l:List IvT} {r os : List IvT},cov K r→(∀ v ∈ l,∀ m,v.f≤m→m < v.t→K m)→os.Pairwise (fun a b=>a.t≤b.t)→cov K (withoutN r os l)
 | [],r,os,h,_,_=>h
 | v :: l,r,os,h,hl,hs=>by
  obtain ⟨d1,d2⟩:=dropN_suffix v.f os
  have hs2:=hs.sublist d1
  have hge:∀ o ∈ dropN v.f os,v.f≤o.t:=by
   intro o ho
   cases hd:dropN v.f os with
   | nil=>rw [hd] at ho; cases ho
   | cons x y =>
    have h3:=d2 x y hd
    rw [hd] at ho hs2
    rcases List.mem_cons.1 ho with rfl | ho
    ·
     omega
    ·
     have:=(List.pairwise_cons.1 hs2).1 o ho
     omega
  obtain ⟨c1,c2⟩:=cov_cut (t:=v.t) (f:=v.f) h (hl v (by simp)) hge hs2
  have hj:=cov_join (v:=⟨(cutN v.t (dropN v.f os) (r,v.f)).2,v.t⟩) c1 (fun m h1 h2=>c2 m h1 h2)
  show cov K (withoutN (joinN (cutN v.t (dropN v.f os) (r,v.f)).1 ⟨(cutN v.t (dropN v.f os) (r,v.f)).2,v.t⟩) (dropN v.f os) l)
  exact cov_without hj (fun x hx=>hl x (by simp [hx])) hs2
theorem brOk_asc {hi:Int} : ∀ {l:List IvT} {lo:Int},brOk lo hi l→l.Pairwise (fun a b=>a.t≤b.t)
 | [],_,_=>List.Pairwise.nil
 | b :: r,_,k=>List.pairwise_cons.2 ⟨fun x hx=>by have:=brOk_in k.2.2 x hx; omega,brOk_asc k.2.2⟩
theorem prOk_brs_asc {hi:Int} : ∀ {l:List PresT} {lo:Int},prOk lo hi l→(brsN l).Pairwise (fun a b=>a.t≤b.t)
 | [],_,_=>List.Pairwise.nil
 | p :: r,_,k=>by
  show (p.br++brsN r).Pairwise _
  exact List.pairwise_append.2 ⟨brOk_asc k.2.2.1,prOk_brs_asc k.2.2.2,fun a ha b hb=>by
   have:=brOk_in k.2.2.1 a ha
   have:=prOk_brs k.2.2.2 b hb
   omega⟩
theorem workN_cov {hi:Int} {ps:List PresT} (h:prOk 0 hi ps) : cov (fun m=>∃ p ∈ ps,p.stay.f≤m∧m < p.stay.t) (workN ps) :=
 cov_without (fun x hx=>(by cases hx)) (fun v hv m h1 h2=>by
  obtain ⟨p,hp,rfl⟩:=List.mem_map.1 hv
  exact ⟨p,hp,h1,h2⟩) (prOk_brs_asc h)
theorem work_apart {hi:Int} {a b : List PresT} (ha:prOk 0 hi a) (hb:prOk 0 hi b) (h:prApart a b) : apart (workN a) (workN b):=by
 intro x hx y hy
 have hx':=brOk_in (workN_ok ha).1 x hx
 have hy':=brOk_in (workN_ok hb).1 y hy
 rcases Int.lt_or_le y.f x.t with h1 | h1
 ·
  rcases Int.lt_or_le x.f y.t with h2 | h2
  ·
   exfalso
   obtain ⟨p,hp,p1,p2⟩:=workN_cov ha x hx (max x.f y.f) (by omega) (by omega)
   obtain ⟨q,hq,q1,q2⟩:=workN_cov hb y hy (max x.f y.f) (by omega) (by omega)
   have:=h p hp q hq
   omega
  ·
   exact .inr h2
 ·
  exact .inl h1
structure WorkT where
 day:Int
 ivs:List IvT
def worksN (D:List DutyT) : List WorkT:=(D.map fun d=>⟨d.day,workN d.ps⟩).filter fun w=>!w.ivs.isEmpty
def spansN (W:List WorkT) : List SpT:=W.flatMap fun w=>w.ivs.map fun v=>⟨w.day,v⟩
def spC (a b : SpT) : Int:=cmpI a.iv.f b.iv.f
def ivC (a b : IvT) : Int:=cmpI a.f b.f
theorem spC_tot : Tot spC:=⟨fun _ _=>cmpI_tot.vals _ _,fun _ _=>cmpI_tot.swap _ _,fun _ _ _=>cmpI_tot.trans _ _ _,fun _ _ _=>cmpI_tot.sub _ _ _⟩
theorem ivC_tot : Tot ivC:=⟨fun _ _=>cmpI_tot.vals _ _,fun _ _=>cmpI_tot.swap _ _,fun _ _ _=>cmpI_tot.trans _ _ _,fun _ _ _=>cmpI_tot.sub _ _ _⟩
theorem brOk_pair {hi:Int} : ∀ {l:List IvT} {lo:Int},brOk lo hi l→l.Pairwise (fun a b=>a.t≤b.f)
 | [],_,_=>List.Pairwise.nil
 | _ :: _,_,k=>List.pairwise_cons.2 ⟨fun x hx=>(brOk_in k.2.2 x hx).1,brOk_pair k.2.2⟩
theorem spans_ok {hi:Int} : ∀ {D:List DutyT},DuOk hi D→(∀ d ∈ D,0≤d.day∧d.day≤84005) →
  (∀ s ∈ spansN (worksN D),0≤s.iv.f∧s.iv.f < s.iv.t∧s.iv.t≤hi∧0≤s.day∧s.day≤84005)∧(spansN (worksN D)).Pairwise (fun a b=>a.iv.t≤b.iv.f ∨ b.iv.t≤a.iv.f) ∧
  ((spansN (worksN D)).map fun s=>s.iv.t - s.iv.f).sum = sumDu D:=by
 intro D
 induction D with
 | nil=>intro _ _; exact ⟨fun s hs=>(by cases hs),List.Pairwise.nil,rfl⟩
 | cons d D ih =>
  intro h hd
  have hap:=List.pairwise_cons.1 h.ap
  have hnd:(keyD d :: D.map keyD).Nodup:=h.nd
  have h':DuOk hi D:=⟨(List.nodup_cons.1 hnd).2,fun x hx=>h.pr x (by simp [hx]),fun x hx=>h.ne x (by simp [hx]),hap.2⟩
  obtain ⟨i1,i2,i3⟩:=ih h' (fun x hx=>hd x (by simp [hx]))
  have hp:=h.pr d (by simp)
  obtain ⟨w1,w2⟩:=workN_ok hp
  have e:spansN (worksN (d :: D)) = (workN d.ps).map (fun v=>(⟨d.day,v⟩ : SpT))++spansN (worksN D):=by
   unfold worksN spansN
   rw [List.map_cons,List.filter_cons]
   split
   ·
    rw [List.flatMap_cons]
   ·
    rename_i hz
    have:workN d.ps = []:=by
     cases hw:workN d.ps with
     | nil=>rfl
     | cons x y=>exact absurd (by simp [hw]) hz
    rw [this]
    rfl
  have hmem:∀ s ∈ spansN (worksN D),∃ x ∈ D,s.iv ∈ workN x.ps:=by
   intro s hs
   obtain ⟨w,hw,hs⟩:=List.mem_flatMap.1 hs
   obtain ⟨x,hx,rfl⟩:=List.mem_map.1 (List.mem_filter.1 hw).1
   obtain ⟨v,hv,rfl⟩:=List.mem_map.1 hs
   exact ⟨x,hx,hv⟩
  rw [e]
  refine ⟨fun s hs=>?_,List.pairwise_append.2 ⟨?_,i2,fun a ha b hb=>?_⟩,?_⟩
  ·
   rcases List.mem_append.1 hs with hs | hs
   ·
    obtain ⟨v,hv,rfl⟩:=List.mem_map.1 hs
    have:=brOk_in w1 v hv
    exact ⟨this.1,this.2.1,this.2.2,hd d (by simp)⟩
   ·
    exact i1 s hs
  ·
   rw [List.pairwise_map]
   exact (brOk_pair w1).imp fun h=>.inl h
  ·
   obtain ⟨v,hv,rfl⟩:=List.mem_map.1 ha
   obtain ⟨x,hx,hb'⟩:=hmem b hb
   exact work_apart hp (h'.pr x hx) (hap.1 x hx) v hv b.iv hb'
  ·
   rw [List.map_append,List.sum_append,i3,List.map_map]
   show ((workN d.ps).map (fun v=>v.t - v.f)).sum+_ = _
   have:((workN d.ps).map (fun v=>v.t - v.f)).sum = minsN d.ps:=w2
   rw [this]
   simp [sumDu]
end Go.Proofs.YtopekilofdadnaaGreatDoor
namespace Go.Proofs.YtopekilofdadnaaGreatDoor
open Go.RowKit
structure DayT where
 day:Int
 times:List TmT
 an:List AnomT
deriving DecidableEq
section
variable {α:Type} {C:α→α→Int}
theorem insC_perm (x:α) : ∀ (l:List α),(∀ y ∈ l,C x y ≠ 0)→(insC C x l).Perm (x :: l)
 | [],_=>List.Perm.refl _
 | y :: l,h=>by
  rw [insC,if_neg (h y (by simp))]
  split
  ·
   exact List.Perm.refl _
  ·
   exact ((insC_perm x l fun z hz=>h z (by simp [hz])).cons y).trans (List.Perm.swap _ _ _)
theorem uniC_perm : ∀ (l:List α),l.Pairwise (fun a b=>C a b ≠ 0)→(uniC C l).Perm l
 | [],_=>List.Perm.refl _
 | x :: l,h=>by
  have h':=List.pairwise_cons.1 h
  have ih:=uniC_perm l h'.2
  exact (insC_perm x (uniC C l) fun y hy=>h'.1 y (ih.mem_iff.1 hy)).trans (ih.cons x)
theorem insC_srt' (h:Tot C) (x:α) : ∀ (l:List α),(∀ y ∈ l,C x y ≠ 0)→srtC C l→srtC C (insC C x l)
 | [],_,_=>List.pairwise_singleton _ _
 | y :: l,hn,hl=>by
  have hl':=List.pairwise_cons.1 hl
  rw [insC,if_neg (hn y (by simp))]
  split
  ·
   rename_i e
   exact List.pairwise_cons.2 ⟨fun z hz'=>by
    rcases List.mem_cons.1 hz' with rfl | hz'
    ·
     exact e
    ·
     exact h.trans _ _ _ e (hl'.1 z hz'),hl⟩
  ·
   rename_i e2
   refine List.pairwise_cons.2 ⟨fun z hz'=>?_,insC_srt' h x l (fun z hz=>hn z (by simp [hz])) hl'.2⟩
   rcases List.mem_cons.1 ((insC_perm x l fun z hz=>hn z (by simp [hz])).mem_iff.1 hz') with rfl | hz'
   ·
    have:=h.vals z y
    have:=h.swap z y
    have:=hn y (by simp)
    omega
   ·
    exact hl'.1 z hz'
theorem uniC_srt' (h:Tot C) : ∀ (l:List α),l.Pairwise (fun a b=>C a b ≠ 0)→srtC C (uniC C l)
 | [],_=>List.Pairwise.nil
 | x :: l,hl=>by
  have hl':=List.pairwise_cons.1 hl
  exact insC_srt' h x _ (fun y hy=>hl'.1 y ((uniC_perm l hl'.2).mem_iff.1 hy)) (uniC_srt' h l hl'.2)
end
theorem sum_perm {a b : List Int} (h:a.Perm b) : a.sum = b.sum:=by
 induction h with
 | nil=>rfl
 | cons x _ ih=>simp [ih]
 | swap x y l=>simp only [List.sum_cons]; omega
 | trans _ _ i1 i2=>exact i1.trans i2
theorem sum_ite (d n : Int) : ∀ (K:List Int),K.Nodup→d ∈ K→(K.map fun k=>if d = k then n else 0).sum = n
 | [],_,h=>by cases h
 | k :: K,hn,h=>by
  have hn':=List.nodup_cons.1 hn
  rw [List.map_cons,List.sum_cons]
  by_cases e:d = k
  ·
   subst e
   have hz:(K.map fun k=>if d = k then n else 0) = K.map fun _=>0:=List.map_congr_left fun x hx=>if_neg (by rintro rfl; exact hn'.1 hx)
   rw [if_pos rfl,hz]
   have:∀ K:List Int,(K.map fun _=>(0:Int)).sum = 0:=fun K=>by
    induction K with
    | nil=>rfl
    | cons x K ih=>simpa using ih
   rw [this]
   omega
  ·
   rw [if_neg e,sum_ite d n K hn'.2 ((List.mem_cons.1 h).resolve_left e)]
   omega
theorem sum_add (f g : Int→Int) : ∀ (K:List Int),(K.map fun k=>f k+g k).sum = (K.map f).sum+(K.map g).sum
 | []=>rfl
 | k :: K=>by
  have:=sum_add f g K
  simp only [List.map_cons,List.sum_cons]
  omega
theorem pc_days : ∀ (l:List PcT) (K:List Int),K.Nodup→(∀ p ∈ l,p.day ∈ K)→(K.map fun d=>pcDay d l).sum = (l.map fun p=>p.iv.t - p.iv.f).sum
 | [],K,_,_=>by
  have:∀ K:List Int,(K.map fun d=>pcDay d []).sum = 0:=fun K=>by
   induction K with
   | nil=>rfl
   | cons x K ih=>rw [List.map_cons,List.sum_cons,ih]; rfl
  exact this K
 | p :: l,K,hn,h=>by
  have e:(fun d=>pcDay d (p :: l)) = fun d=>(if p.day = d then p.iv.t - p.iv.f else 0)+pcDay d l:=by
   funext d; simp [pcDay]
  rw [e,sum_add,sum_ite _ _ K hn (h p (by simp)),pc_days l K hn (fun q hq=>h q (by simp [hq]))]
  simp
theorem sp_days : ∀ (l:List SpT) (K:List Int),K.Nodup→(∀ p ∈ l,p.day ∈ K)→(K.map fun d=>spDay d l).sum = (l.map fun p=>p.iv.t - p.iv.f).sum
 | [],K,_,_=>by
  have:∀ K:List Int,(K.map fun d=>spDay d []).sum = 0:=fun K=>by
   induction K with
   | nil=>rfl
   | cons x K ih=>rw [List.map_cons,List.sum_cons,ih]; rfl
  exact this K
 | p :: l,K,hn,h=>by
  have e:(fun d=>spDay d (p :: l)) = fun d=>(if p.day = d then p.iv.t - p.iv.f else 0)+spDay d l:=by
   funext d; simp [spDay]
  rw [e,sum_add,sum_ite _ _ K hn (h p (by simp)),sp_days l K hn (fun q hq=>h q (by simp [hq]))]
  simp
theorem cmpI_eq : ∀ a b,cmpI a b = 0→a = b:=fun _ _ h=>cmpI_zero.1 h
theorem srt_nodup {K:List Int} (h:srtC cmpI K) : K.Nodup:=by
 refine List.Pairwise.imp (fun {a b} hab=>?_) h
 rintro rfl
 have:=cmpI_tot.irr a
 omega
theorem div_total (r:BandsT) {hi:Int} {S:List SpT} (hs : ∀ s ∈ S,0≤s.iv.f∧s.iv.f < s.iv.t∧s.iv.t≤hi∧0≤s.day∧s.day≤84005) :
  ((divN r S).map fun p=>p.iv.t - p.iv.f).sum = (S.map fun s=>s.iv.t - s.iv.f).sum:=by
 obtain ⟨_,h⟩:=divN_ok r hs
 have hK:(uniC cmpI ((divN r S).map (·.day)++S.map (·.day))).Nodup:=srt_nodup (uniC_srt cmpI_tot cmpI_eq _)
 rw [← pc_days (divN r S) _ hK (fun p hp=>(uniC_mem cmpI_eq _ _).2 (List.mem_append_left _ (List.mem_map_of_mem hp))),← sp_days S _ hK (fun p hp=>(uniC_mem cmpI_eq _ _).2 (List.mem_append_right _ (List.mem_map_of_mem hp)))]
 congr 1
 exact List.map_congr_left fun d _=>h d
def keysN (z:ZoneT) (pcs:List PcT) (an:List AnomT) (a b : Int) : List Int:=uniC cmpI ((pcs.map (·.day)++an.map fun x=>dayN z x.time).filter fun d=>decide (a≤d∧d≤b))
def resN (z:ZoneT) (pcs:List PcT) (an:List AnomT) (a b : Int) : List DayT:=(keysN z pcs an a b).map fun d=>⟨d,totN pcs d,an.filter fun x=>decide (dayN z x.time = d)⟩
def sumDays (l:List DayT) : Int:=(l.map fun d=>sumTm d.times).sum
theorem res_sum (z:ZoneT) {pcs:List PcT} (an:List AnomT) (h : ∀ p ∈ pcs,0≤p.day∧p.day≤84005) : sumDays (resN z pcs an 0 84005) = (pcs.map fun p=>p.iv.t - p.iv.f).sum:=by
 have hK:(keysN z pcs an 0 84005).Nodup:=srt_nodup (uniC_srt cmpI_tot cmpI_eq _)
 rw [← pc_days pcs _ hK (fun p hp=>(uniC_mem cmpI_eq _ _).2 (List.mem_filter.2 ⟨List.mem_append_left _ (List.mem_map_of_mem hp),by simpa using h p hp⟩))]
 unfold sumDays resN
 rw [List.map_map]
 congr 1
 refine List.map_congr_left fun d _=>?_
 have:=(totN_ok d pcs [] (by simp)).2
 show sumTm (totN pcs d) = _
 unfold totN
 rw [this]
 simp [sumTm]
def sortedN (W:List WorkT) : List SpT:=uniC spC (spansN W)
theorem sorted_ok {hi:Int} {D:List DutyT} (h:DuOk hi D) (hd : ∀ d ∈ D,0≤d.day∧d.day≤84005) :
  (sortedN (worksN D)).Perm (spansN (worksN D))∧srtC spC (sortedN (worksN D))∧(∀ s ∈ sortedN (worksN D),0≤s.iv.f∧s.iv.f < s.iv.t∧s.iv.t≤hi∧0≤s.day∧s.day≤84005) ∧
  (sortedN (worksN D)).Pairwise (fun a b=>a.iv.t≤b.iv.f)∧((sortedN (worksN D)).map fun s=>s.iv.t - s.iv.f).sum = sumDu D:=by
 obtain ⟨h1,h2,h3⟩:=spans_ok h hd
 have hne:(spansN (worksN D)).Pairwise (fun a b=>spC a b ≠ 0):=by
  refine List.Pairwise.imp_of_mem (fun {a b} ha hb hab e=>?_) h2
  have:=h1 a ha
  have:=h1 b hb
  have:=cmpI_zero.1 e
  omega
 have hp:=uniC_perm (C:=spC) _ hne
 have hs:=uniC_srt' spC_tot _ hne
 have hm:∀ s ∈ sortedN (worksN D),0≤s.iv.f∧s.iv.f < s.iv.t∧s.iv.t≤hi∧0≤s.day∧s.day≤84005:=fun s hs'=>h1 s (hp.mem_iff.1 hs')
 have hsym:(sortedN (worksN D)).Pairwise (fun a b=>a.iv.t≤b.iv.f ∨ b.iv.t≤a.iv.f):=(List.Perm.pairwise_iff (fun {a b} h=>h.symm) hp).2 h2
 refine ⟨hp,hs,hm,?_,by rw [← h3]; exact sum_perm (hp.map _)⟩
 refine (hsym.and hs).imp_of_mem fun {a b} ha hb hab=>?_
 have h5:=hm a ha
 have h6:=hm b hb
 have h7:cmpI a.iv.f b.iv.f = -1:=hab.2
 unfold cmpI at h7
 split at h7
 ·
  have:=hab.1
  omega
 ·
  split at h7 <;> omega
theorem eval_sum (z:ZoneT) (r:BandsT) (plan:List ShiftT) (sp:List IvT) (early late : Int) {P:List PresT} (an:List AnomT) (hp:prOk 0 120968640 P) (hpl : ∀ s ∈ plan,0≤s.day∧s.day≤84005) (hsp:sp.length = plan.length) :
  sumDays (resN z (divN r (sortedN (worksN (assignN z plan sp early late P)))) an 0 84005) = minsN P:=by
 obtain ⟨a1',a2'⟩:=assignN_ok z plan sp early late P [] 0 120968640 ⟨by simp,fun d hd=>(by cases hd),fun d hd=>(by cases hd),List.Pairwise.nil⟩ (by omega) hp
 have a1:DuOk 120968640 (assignN z plan sp early late P):=a1'
 have a2:sumDu (assignN z plan sp early late P) = sumDu []+minsN P:=a2'
 have hd:∀ d ∈ assignN z plan sp early late P,0≤d.day∧d.day≤84005:=by
  have key:∀ (P:List PresT) (l:List DutyT),(∀ d ∈ l,0≤d.day∧d.day≤84005)→∀ d ∈ P.foldl (fun l p=>putDu l (shiftOf early late sp p) (dayOf z plan (shiftOf early late sp p) p) p) l,0≤d.day∧d.day≤84005:=by
   intro P
   induction P with
   | nil=>intro l h; exact h
   | cons p P ih =>
    intro l h
    refine ih _ fun d hd=>?_
    have hdy:0≤dayOf z plan (shiftOf early late sp p) p∧dayOf z plan (shiftOf early late sp p) p≤84005:=by
     unfold dayOf
     split
     ·
      have h1:=belN_bd p.stay.f early late sp
      have h2:(shiftOf early late sp p).toNat < plan.length:=by unfold shiftOf at *; omega
      rw [List.getD_eq_getElem?_getD,List.getElem?_eq_getElem h2]
      exact hpl _ (List.getElem_mem _)
     ·
      exact dayN_bd z _
    have hd:d ∈ putDu l (shiftOf early late sp p) (dayOf z plan (shiftOf early late sp p) p) p:=hd
    unfold putDu at hd
    split at hd
    ·
     obtain ⟨x,hx,rfl⟩:=List.mem_map.1 hd
     split
     ·
      exact h x hx
     ·
      exact h x hx
    ·
     rcases List.mem_append.1 hd with hd | hd
     ·
      exact h d hd
     ·
      rw [List.mem_singleton] at hd
      subst hd
      exact hdy
  exact key P [] (fun d hd=>by cases hd)
 obtain ⟨_,_,s3,_,s5⟩:=sorted_ok a1 hd
 have hpc:=(divN_ok r s3).1.ok
 rw [res_sum z an (fun p hp=>(hpc p hp).2.2.2),div_total r s3,s5]
 have:sumDu [] = 0:=rfl
 omega
end Go.Proofs.YtopekilofdadnaaGreatDoor
namespace Go.Proofs.YtopekilofdadnaaGreatDoor
open Go.RowKit
def evIn (f:Int) : EvT:=⟨⟨0,1⟩,4,f,1,⟨0,0⟩⟩
def evOut (t:Int) : EvT:=⟨⟨0,2⟩,4,t,2,⟨0,0⟩⟩
theorem effN_two {f t : Int} (h:f < t) : effN [evOut t,evIn f] 4 = [⟨f,1,⟨0,1⟩⟩,⟨t,2,⟨0,2⟩⟩]:=by
 have h1:uniC evC [evOut t,evIn f] = [evIn f,evOut t]:=rfl
 have h2:cntF 4 [evOut t,evIn f] = [evIn f,evOut t]:=by
  unfold cntF
  rw [h1]
  rfl
 have h3:stampsN [evIn f,evOut t] = [⟨f,1,⟨0,1⟩⟩,⟨t,2,⟨0,2⟩⟩]:=rfl
 have h4:stC ⟨f,1,⟨0,1⟩⟩ ⟨t,2,⟨0,2⟩⟩ = -1:=by
  have:cmpI f t = -1:=by unfold cmpI; rw [if_pos h]
  show orI (cmpI f t) _ = -1
  rw [this]
  rfl
 unfold effN
 rw [h2,h3]
 show insC stC ⟨f,1,⟨0,1⟩⟩ [⟨t,2,⟨0,2⟩⟩] = _
 rw [insC,if_neg (by rw [h4]; decide),if_pos h4]
theorem pairN_two {f t : Int} (h:f < t) (hl:t - f≤900) : pairN 900 [⟨f,1,⟨0,1⟩⟩,⟨t,2,⟨0,2⟩⟩] = ([⟨⟨f,t⟩,[]⟩],[]):=by
 have e:pairTo 900 [⟨f,1,⟨0,1⟩⟩,⟨t,2,⟨0,2⟩⟩] = (PairS.enter pair0 f).leave 900 t:=rfl
 unfold pairN
 rw [e]
 unfold PairS.leave PairS.enter pair0 pairFin
 have h1:¬ 900 < t - f:=by omega
 simp [h1,h]
theorem assignN_two {z:ZoneT} {s:ShiftT} {f t : Int} (h:f < t) : assignN z [s] [⟨f,t⟩] 0 0 [⟨⟨f,t⟩,[]⟩] = [⟨0,s.day,[⟨⟨f,t⟩,[]⟩]⟩]:=by
 have hb:shiftOf 0 0 [⟨f,t⟩] ⟨⟨f,t⟩,[]⟩ = 0:=by
  show (bel1 f 0 0 0 ⟨f,t⟩ (-1,0)).1 = 0
  unfold bel1
  simp only
  rw [if_pos (by omega),if_pos (by omega)]
 have hd:dayOf z [s] 0 ⟨⟨f,t⟩,[]⟩ = s.day:=rfl
 show putDu [] (shiftOf 0 0 [⟨f,t⟩] ⟨⟨f,t⟩,[]⟩) (dayOf z [s] (shiftOf 0 0 [⟨f,t⟩] ⟨⟨f,t⟩,[]⟩) ⟨⟨f,t⟩,[]⟩) ⟨⟨f,t⟩,[]⟩ = _
 rw [hb,hd]
 rfl
theorem workN_two {f t : Int} (h:f < t) : workN [⟨⟨f,t⟩,[]⟩] = [⟨f,t⟩]:=by
 show joinN [] ⟨f,t⟩ = _
 unfold joinN
 rw [if_neg (by simp only; omega)]
 rfl
theorem uniC_same {d:Int} : ∀ {l:List Int},(∀ x ∈ l,x = d)→l ≠ []→uniC cmpI l = [d]
 | [],_,h=>absurd rfl h
 | x :: l,hx,_=>by
  obtain rfl:=hx x (by simp)
  by_cases hl:l = []
  ·
   subst hl; rfl
  ·
   show insC cmpI x (uniC cmpI l) = _
   rw [uniC_same (fun y hy=>hx y (by simp [hy])) hl,insC,if_pos (cmpI_zero.2 rfl)]
theorem shift_res {z:ZoneT} {r:BandsT} {s:ShiftT} {f t a b : Int} (h0:0≤f) (h:f < t) (hl:t - f≤900) (ht:t≤120968640) (hd:0≤s.day∧s.day≤84005) (hab:a≤s.day∧s.day≤b) :
  ∃ l,resN z (divN r (sortedN (worksN (assignN z [s] [⟨f,t⟩] 0 0 (pairN 900 (effN [evOut t,evIn f] 4)).1)))) (pairN 900 (effN [evOut t,evIn f] 4)).2 a b = [⟨s.day,l,[]⟩]∧sumTm l = t - f:=by
 rw [effN_two h,pairN_two h hl,assignN_two h]
 have hw:worksN [⟨0,s.day,[⟨⟨f,t⟩,[]⟩]⟩] = [⟨s.day,[⟨f,t⟩]⟩]:=by
  unfold worksN
  rw [List.map_cons,workN_two h]
  rfl
 rw [hw]
 have hs:sortedN [⟨s.day,[⟨f,t⟩]⟩] = [⟨s.day,⟨f,t⟩⟩]:=rfl
 rw [hs]
 have hS:∀ x ∈ [(⟨s.day,⟨f,t⟩⟩ : SpT)],0≤x.iv.f∧x.iv.f < x.iv.t∧x.iv.t≤120968640∧0≤x.day∧x.day≤84005:=by
  intro x hx
  rw [List.mem_singleton] at hx
  subst hx
  exact ⟨h0,h,ht,hd⟩
 obtain ⟨h1,h2⟩:=divN_ok r hS
 have hday:pcDay s.day (divN r [⟨s.day,⟨f,t⟩⟩]) = t - f:=by
  rw [h2]
  simp [spDay]
 have hall:∀ p ∈ divN r [⟨s.day,⟨f,t⟩⟩],p.day = s.day:=by
  intro p hp
  by_cases e:p.day = s.day
  ·
   exact e
  ·
   exfalso
   have h3:=h2 p.day
   have h4:spDay p.day [⟨s.day,⟨f,t⟩⟩] = 0:=by simp [spDay,Ne.symm e]
   have h5:∀ (l:List PcT),(∀ q ∈ l,q.iv.f < q.iv.t)→p ∈ l→0 < pcDay p.day l:=by
    intro l
    induction l with
    | nil=>intro _ h; cases h
    | cons q l ih =>
     intro hq hm
     have hnn:0≤pcDay p.day l:=by
      have:∀ (l:List PcT),(∀ q ∈ l,q.iv.f < q.iv.t)→0≤pcDay p.day l:=by
       intro l
       induction l with
       | nil=>intro _; exact Int.le_refl _
       | cons q l ih =>
        intro hq
        have h6:=ih fun x hx=>hq x (by simp [hx])
        have h7:=hq q (by simp)
        simp only [pcDay,List.map_cons,List.sum_cons] at h6 ⊢
        split <;> omega
      exact this l fun x hx=>hq x (by simp [hx])
     have h7:=hq q (by simp)
     rcases List.mem_cons.1 hm with rfl | hm
     ·
      simp only [pcDay,List.map_cons,List.sum_cons] at hnn ⊢
      rw [if_pos trivial]
      omega
     ·
      have h6:=ih (fun x hx=>hq x (by simp [hx])) hm
      simp only [pcDay,List.map_cons,List.sum_cons] at h6 ⊢
      split <;> omega
   have:=h5 _ (fun q hq=>(h1.ok q hq).2.1) hp
   omega
 have hne:divN r [⟨s.day,⟨f,t⟩⟩] ≠ []:=by
  intro e
  rw [e] at hday
  have:pcDay s.day [] = 0:=rfl
  omega
 have hk:keysN z (divN r [⟨s.day,⟨f,t⟩⟩]) [] a b = [s.day]:=by
  unfold keysN
  refine uniC_same (fun x hx=>?_) ?_
  ·
   have hx:=(List.mem_filter.1 hx).1
   rw [List.map_nil,List.append_nil] at hx
   obtain ⟨p,hp,rfl⟩:=List.mem_map.1 hx
   exact hall p hp
  ·
   cases hc:divN r [⟨s.day,⟨f,t⟩⟩] with
   | nil=>exact absurd hc hne
   | cons p l =>
    have:=hall p (by rw [hc]; simp)
    rw [List.map_cons,this,List.cons_append,List.filter_cons,if_pos (by simpa using hab)]
    simp
 refine ⟨totN (divN r [⟨s.day,⟨f,t⟩⟩]) s.day,?_,?_⟩
 ·
  unfold resN
  rw [hk]
  rfl
 ·
  have:=(totN_ok s.day (divN r [⟨s.day,⟨f,t⟩⟩]) [] (by simp)).2
  unfold totN
  rw [this,hday]
  simp [sumTm]
end Go.Proofs.YtopekilofdadnaaGreatDoor
namespace Go.Proofs.YtopekilofdadnaaGreatDoor
open Go.RowKit
def nearB (a b s : Int) : Prop:=a - b≤s∧b - a≤s
instance (a b s : Int) : Decidable (nearB a b s):=by unfold nearB; infer_instance
def sNormal : ByteArray:=⟨#[110,111,114,109,97,108]⟩
def sOt1 : ByteArray:=⟨#[111,116,49]⟩
def sheetB : BandsT:=⟨sNormal,[⟨sOt1,480⟩],[]⟩
def dayE : List EvT:=[⟨⟨0,1⟩,1,29454240,1,⟨0,0⟩⟩,⟨⟨0,2⟩,1,29454780,2,⟨0,0⟩⟩]
theorem timed_pair : pairN 900 (effN dayE 1) = ([⟨⟨29454240,29454780⟩,[]⟩],[]):=by decide +kernel
theorem timed_res : resN ⟨0,[]⟩ (divN sheetB (sortedN (worksN (assignN ⟨0,[]⟩ [] [] 0 0 (pairN 900 (effN dayE 1)).1)))) (pairN 900 (effN dayE 1)).2 20454 20454 = [⟨20454,[⟨sNormal,480⟩,⟨sOt1,60⟩],[]⟩]:=by
 rw [timed_pair]
 decide +kernel
end Go.Proofs.YtopekilofdadnaaGreatDoor
namespace Go.Proofs.YtopekilofdadnaaGreatDoor
open Go.RowKit
structure EvOk (e:EvT) : Prop where
 term:0≤e.key.term∧e.key.term≤65535
 seq:0≤e.key.seq∧e.key.seq≤2147483647
 emp:1≤e.emp∧e.emp≤2147483647
 time:0≤e.time∧e.time≤120968639
 kind:1≤e.kind∧e.kind≤6
 none:e.kind≤4→e.target = ⟨0,0⟩
 targ:5≤e.kind→(0≤e.target.term∧e.target.term≤65535)∧0≤e.target.seq∧e.target.seq≤2147483647
theorem evC_key {a b : EvT} (h:evC a b = -1) : keyC a.key b.key = -1 ∨ keyC a.key b.key = 0:=by
 unfold evC orI at h
 split at h
 ·
  exact .inr (by assumption)
 ·
  exact .inl h
theorem key_step {k a b : KeyT} (h:keyC k a = -1 ∨ keyC k a = 0) (h2:keyC a b = -1) : keyC k b = -1:=by
 rcases h with h | h
 ·
  exact keyC_tot.trans _ _ _ h h2
 ·
  rw [keyC_tot.sub _ _ b h]; exact h2
theorem cntN_gt (emp:Int) : ∀ (l:List EvT) (k:KeyT),srtC evC l→(∀ e ∈ l,keyC k e.key = -1 ∨ keyC k e.key = 0)→∀ y ∈ cntN emp (some k) l,keyC k y.key = -1
 | [],_,_,_,y,hy=>by cases hy
 | x :: l,k,hl,hk,y,hy=>by
  have hl':=List.pairwise_cons.1 hl
  have hx:=hk x (by simp)
  have ih:=cntN_gt emp l x.key hl'.2 (fun e he=>evC_key (hl'.1 e he))
  rw [cntN] at hy
  rcases List.mem_append.1 hy with hy | hy
  ·
   split at hy
   ·
    cases hy
   ·
    rename_i hne
    split at hy
    ·
     rw [List.mem_singleton] at hy
     subst hy
     rcases hx with hx | hx
     ·
      exact hx
     ·
      exact absurd (congrArg some (keyC_zero.1 hx)) hne
    ·
     cases hy
  ·
   exact key_step hx (ih y hy)
theorem cntN_keys (emp:Int) : ∀ (l:List EvT) (k:Option KeyT),srtC evC l→(cntN emp k l).Pairwise (fun a b=>keyC a.key b.key = -1)
 | [],_,_=>List.Pairwise.nil
 | x :: l,k,hl=>by
  have hl':=List.pairwise_cons.1 hl
  have ih:=cntN_keys emp l (some x.key) hl'.2
  have hg:=cntN_gt emp l x.key hl'.2 (fun e he=>evC_key (hl'.1 e he))
  rw [cntN]
  split
  ·
   exact ih
  ·
   split
   ·
    exact List.pairwise_cons.2 ⟨fun y hy=>hg y hy,ih⟩
   ·
    exact ih
theorem evC_eq : ∀ a b,evC a b = 0→a = b:=fun _ _ h=>evC_zero.1 h
theorem uni_srt (l:List EvT) : srtC evC (uniC evC l):=uniC_srt evC_tot evC_eq l
theorem cntF_keys (emp:Int) (l:List EvT) : (cntF emp l).Pairwise (fun a b=>keyC a.key b.key = -1):=cntN_keys emp _ none (uni_srt l)
theorem cntF_mem {emp:Int} {l:List EvT} {e:EvT} (h:e ∈ cntF emp l) : e ∈ l:=(uniC_mem evC_eq _ _).1 ((cntN_sub emp _ _).subset h)
theorem stamps_ne (l:List EvT) (h:l.Pairwise (fun a b=>keyC a.key b.key = -1)) : (stampsN l).Pairwise (fun a b=>stC a b ≠ 0):=by
 unfold stampsN
 rw [List.pairwise_map]
 refine List.Pairwise.imp (fun {a b} hab e=>?_) (h.filter _)
 have:=(orI_zero.1 e).2
 simp only at this
 omega
theorem effN_perm (l:List EvT) (emp:Int) : (effN l emp).Perm (stampsN (cntF emp l))∧srtC stC (effN l emp) :=
 ⟨uniC_perm _ (stamps_ne _ (cntF_keys emp l)),uniC_srt' stC_tot _ (stamps_ne _ (cntF_keys emp l))⟩
theorem corrT_time {l:List EvT} {k:KeyT} (h : ∀ e ∈ l,EvOk e) : ∀ t,corrT l k = some t→0≤t∧t≤120968639:=by
 have key:∀ (l:List EvT) (q:Option Int),(∀ e ∈ l,EvOk e)→(∀ t,q = some t→0≤t∧t≤120968639)→∀ t,l.foldl (fun t e=>if e.kind = 6∧e.target = k then some e.time else t) q = some t→0≤t∧t≤120968639:=by
  intro l
  induction l with
  | nil=>intro q _ hq t ht; exact hq t ht
  | cons x l ih =>
   intro q hl hq t ht
   refine ih _ (fun e he=>hl e (by simp [he])) (fun u hu=>?_) t ht
   have hu:(if x.kind = 6∧x.target = k then some x.time else q) = some u:=hu
   split at hu
   ·
    injection hu with hu
    subst hu
    exact (hl x (by simp)).time
   ·
    exact hq u hu
 exact key l none h (fun t ht=>by cases ht)
theorem eff_ok {l:List EvT} {emp:Int} (h : ∀ e ∈ l,EvOk e) :
  (∀ s ∈ effN l emp,(0≤s.time∧s.time≤120968639)∧1≤s.kind∧s.kind≤4)∧(effN l emp).Pairwise (fun a b=>a.time≤b.time)∧(effN l emp).length≤l.length ∧
  ((effN l emp).filter (fun s=>decide (s.kind = 1))).length≤(l.filter (fun e=>decide (e.kind = 1))).length:=by
 obtain ⟨hp,hs⟩:=effN_perm l emp
 refine ⟨fun s hs'=>?_,?_,?_,?_⟩
 ·
  have hm:=hp.mem_iff.1 hs'
  obtain ⟨e,he,rfl⟩:=List.mem_map.1 hm
  obtain ⟨he,hb⟩:=List.mem_filter.1 he
  have hok:=h e (cntF_mem he)
  have hk:=hok.kind
  have h5:e.kind ≠ 5:=fun e5=>by simp [e5] at hb
  have h6:e.kind ≠ 6:=fun e6=>by simp [e6] at hb
  refine ⟨?_,hk.1,by show e.kind≤4; omega⟩
  show 0≤(corrT (cntF emp l) e.key).getD e.time∧(corrT (cntF emp l) e.key).getD e.time≤120968639
  cases hc:corrT (cntF emp l) e.key with
  | none=>exact hok.time
  | some t=>exact corrT_time (fun x hx=>h x (cntF_mem hx)) t hc
 ·
  refine List.Pairwise.imp (fun {a b} hab=>?_) hs
  unfold stC orI at hab
  split at hab
  ·
   have:=cmpI_zero.1 (by assumption)
   omega
  ·
   unfold cmpI at hab
   split at hab
   ·
    omega
   ·
    split at hab <;> omega
 ·
  rw [hp.length_eq]
  have h1:(stampsN (cntF emp l)).length≤(cntF emp l).length:=by
   unfold stampsN
   rw [List.length_map]
   exact List.length_filter_le _ _
  have h2:=(cntN_sub emp (uniC evC l) none).length_le
  have h3:=uniC_count (C:=evC) (fun _=>true) l
  have e1:∀ l:List EvT,l.filter (fun _=>true) = l:=fun l=>List.filter_eq_self.2 (fun _ _=>rfl)
  rw [e1,e1] at h3
  unfold cntF at h1 ⊢
  omega
 ·
  rw [(hp.filter _).length_eq]
  have h1:((stampsN (cntF emp l)).filter (fun s=>decide (s.kind = 1))).length≤((cntF emp l).filter (fun e=>decide (e.kind = 1))).length:=by
   unfold stampsN
   rw [List.filter_map,List.length_map,List.filter_filter]
   have:∀ (l:List EvT) (p q:EvT→Bool),(l.filter fun a=>p a && q a).length≤(l.filter p).length:=by
    intro l p q
    induction l with
    | nil=>simp
    | cons x l ih =>
     rw [List.filter_cons,List.filter_cons]
     cases hpx:p x <;> cases hqx:q x <;> simp <;> omega
   exact this _ _ _
  have h2:=((cntN_sub emp (uniC evC l) none).filter (fun e=>decide (e.kind = 1))).length_le
  have h3:=uniC_count (C:=evC) (fun e=>decide (e.kind = 1)) l
  unfold cntF at h1 ⊢
  omega
theorem pres_ok {l:List EvT} {emp L : Int} (h : ∀ e ∈ l,EvOk e) :
  prOk 0 120968640 (pairN L (effN l emp)).1∧(∀ x ∈ (pairN L (effN l emp)).1,x.stay.t - x.stay.f≤L)∧(∀ x ∈ (pairN L (effN l emp)).2,0≤x.time∧x.time≤120968639) ∧
  (pairN L (effN l emp)).1.length≤(l.filter (fun e=>decide (e.kind = 1))).length:=by
 obtain ⟨h1,h2,_,h4⟩:=eff_ok (emp:=emp) h
 obtain ⟨p1,p2,p3⟩:=pairN_ok (L:=L) (fun s hs=>(h1 s hs).1) h2
 refine ⟨prOk_mono (by omega) p1,p2,p3,?_⟩
 have h5:=pair_count L (effN l emp) pair0
 have h6:(pairN L (effN l emp)).1.length = (pairTo L (effN l emp)).ps.length:=by
  unfold pairN pairFin
  split <;> rfl
 have h7:pair0.ps.length = 0:=rfl
 have h8:pair0.op = 0:=rfl
 rw [h6]
 unfold pairTo
 omega
end Go.Proofs.YtopekilofdadnaaGreatDoor
namespace Go.Proofs.YtopekilofdadnaaGreatDoor
open Go.RowKit
theorem sumIv_nn {hi:Int} : ∀ {l:List IvT} {lo:Int},brOk lo hi l→0≤sumIv l
 | [],_,_=>Int.le_refl _
 | b :: r,_,k=>by
  have:=sumIv_nn k.2.2
  rw [sumIv_cons]
  have:=k.2.1
  omega
theorem minN_le {p:PresT} {L:Int} (h:brOk p.stay.f p.stay.t p.br) (hl:p.stay.t - p.stay.f≤L) : minN p≤L:=by
 have:=sumIv_nn h
 unfold minN
 omega
theorem mins_le {L hi : Int} (hL:0≤L) : ∀ {P:List PresT} {lo:Int},prOk lo hi P→(∀ x ∈ P,x.stay.t - x.stay.f≤L)→minsN P≤P.length * L∧sumIv (staysN P)≤P.length * L
 | [],_,_,_=>⟨by simp [minsN],by simp [staysN,sumIv]⟩
 | p :: P,_,h,hl=>by
  obtain ⟨g1,g2⟩:=mins_le hL h.2.2.2 (fun x hx=>hl x (by simp [hx]))
  have h1:=minN_le h.2.2.1 (hl p (by simp))
  have h2:=hl p (by simp)
  have e:((p :: P).length:Int) * L = P.length * L+L:=by
   rw [List.length_cons]
   push_cast
   rw [Int.add_mul,Int.one_mul]
  rw [e]
  refine ⟨?_,?_⟩
  ·
   show (minN p :: P.map minN).sum≤_
   rw [List.sum_cons]
   unfold minsN at g1
   omega
  ·
   show sumIv (p.stay :: staysN P)≤_
   rw [sumIv_cons]
   omega
structure DuIn (P:List PresT) (l:List DutyT) : Prop where
 mem:∀ d ∈ l,∀ x ∈ d.ps,x ∈ P
 len:(l.map fun d=>d.ps.length).sum≤P.length
theorem len_map (s d : Int) (p:PresT) : ∀ (l:List DutyT),(l.map keyD).Nodup→((l.map (fun x=>if x.shift = s∧x.day = d then (⟨x.shift,x.day,x.ps++[p]⟩ : DutyT) else x)).map fun d=>d.ps.length).sum≤(l.map fun d=>d.ps.length).sum+1
 | [],_=>by simp
 | y :: l,hn=>by
  rw [List.map_cons,List.nodup_cons] at hn
  simp only [List.map_cons,List.sum_cons]
  by_cases e:y.shift = s∧y.day = d
  ·
   have hz:∀ x ∈ l,¬ (x.shift = s∧x.day = d):=fun x hx ex=>hn.1 (by
    have:keyD y = keyD x:=by unfold keyD; rw [e.1,e.2,ex.1,ex.2]
    rw [this]
    exact List.mem_map_of_mem hx)
   have hm:l.map (fun x=>if x.shift = s∧x.day = d then (⟨x.shift,x.day,x.ps++[p]⟩ : DutyT) else x) = l:=by
    conv=>rhs; rw [← List.map_id l]
    exact List.map_congr_left fun x hx=>if_neg (hz x hx)
   rw [if_pos e,hm]
   simp only [List.length_append,List.length_singleton]
   omega
  ·
   rw [if_neg e]
   have:=len_map s d p l hn.2
   omega
theorem DuIn.put {P:List PresT} {l:List DutyT} (h:DuIn P l) (hn : (l.map keyD).Nodup) (s d : Int) (p:PresT) : DuIn (P++[p]) (putDu l s d p):=by
 unfold putDu
 split
 ·
  refine ⟨fun y hy x hx=>?_,?_⟩
  ·
   obtain ⟨y0,hy0,rfl⟩:=List.mem_map.1 hy
   split at hx
   ·
    rcases List.mem_append.1 hx with hx | hx
    ·
     exact List.mem_append_left _ (h.mem y0 hy0 x hx)
    ·
     exact List.mem_append_right _ hx
   ·
    exact List.mem_append_left _ (h.mem y0 hy0 x hx)
  ·
   have:=len_map s d p l hn
   have:=h.len
   rw [List.length_append,List.length_singleton]
   omega
 ·
  refine ⟨fun y hy x hx=>?_,?_⟩
  ·
   rcases List.mem_append.1 hy with hy | hy
   ·
    exact List.mem_append_left _ (h.mem y hy x hx)
   ·
    rw [List.mem_singleton] at hy
    subst hy
    exact List.mem_append_right _ hx
  ·
   have:=h.len
   rw [List.map_append,List.sum_append,List.length_append]
   simp only [List.map_cons,List.map_nil,List.sum_cons,List.sum_nil,List.length_singleton]
   omega
theorem putDu_nodup {l:List DutyT} (h : (l.map keyD).Nodup) (s d : Int) (p:PresT) : ((putDu l s d p).map keyD).Nodup:=by
 unfold putDu
 split
 ·
  have ek:∀ x:DutyT,keyD (if x.shift = s∧x.day = d then ⟨x.shift,x.day,x.ps++[p]⟩ else x) = keyD x:=fun x=>by split <;> rfl
  rw [List.map_map]
  rw [show (keyD ∘ fun x:DutyT=>if x.shift = s∧x.day = d then (⟨x.shift,x.day,x.ps++[p]⟩ : DutyT) else x) = keyD from funext ek]
  exact h
 ·
  rename_i ha
  rw [List.map_append,List.nodup_append]
  refine ⟨h,by simp,fun a ha' b hb e=>?_⟩
  simp only [List.map_cons,List.map_nil,List.mem_singleton] at hb
  obtain ⟨x,hx,rfl⟩:=List.mem_map.1 ha'
  refine ha (List.any_eq_true.2 ⟨x,hx,?_⟩)
  rw [hb] at e
  unfold keyD at e
  injection e with e1 e2
  simp [e1,e2]
theorem assignN_in (z:ZoneT) (plan:List ShiftT) (sp:List IvT) (early late : Int) : ∀ (Q P : List PresT) (l:List DutyT),DuIn P l→(l.map keyD).Nodup →
  DuIn (P++Q) (Q.foldl (fun l p=>putDu l (shiftOf early late sp p) (dayOf z plan (shiftOf early late sp p) p) p) l)
 | [],P,l,h,_=>by rw [List.append_nil]; exact h
 | q :: Q,P,l,h,hn=>by
  have:=assignN_in z plan sp early late Q (P++[q]) _ (h.put hn (shiftOf early late sp q) (dayOf z plan (shiftOf early late sp q) q) q) (putDu_nodup hn _ _ _)
  rw [List.append_assoc] at this
  exact this
theorem duties_in (z:ZoneT) (plan:List ShiftT) (sp:List IvT) (early late : Int) (P:List PresT) : DuIn P (assignN z plan sp early late P):=by
 have:=assignN_in z plan sp early late P [] [] ⟨fun d hd=>(by cases hd),by simp⟩ (by simp)
 exact this
theorem len_sum : ∀ {l:List DutyT} {n:Nat},(l.map fun d=>d.ps.length).sum≤n→∀ d ∈ l,d.ps.length≤n
 | [],_,_,d,hd=>by cases hd
 | y :: l,n,h,d,hd=>by
  rw [List.map_cons,List.sum_cons] at h
  rcases List.mem_cons.1 hd with rfl | hd
  ·
   omega
  ·
   exact len_sum (by omega) d hd
end Go.Proofs.YtopekilofdadnaaGreatDoor
namespace Go.Proofs.YtopekilofdadnaaGreatDoor
open Go.RowKit
section
variable {α:Type} {enc:α→List Value} {k:Nat} {w w':World} {A:Option Addr} {xs:List α} {o:Obj} {n c off:Nat}
end
end Go.Proofs.YtopekilofdadnaaGreatDoor
