/- Joined texts: TeN TwN ToN TaN. Conditions: as stated. -/
import Derived.Test.YtopekilofdadnaaGreatDoorJData
namespace Go.Proofs.YtopekilofdadnaaGreatDoor
open Go.RowKit
structure EvT where
 key:KeyT
 emp:Int
 time:Int
 kind:Int
 target:KeyT
deriving DecidableEq
def cmpI (a b : Int) : Int:=if a < b then -1 else if b < a then 1 else 0
def orI (a b : Int) : Int:=if a = 0 then b else a
def keyC (a b : KeyT) : Int:=orI (cmpI a.term b.term) (cmpI a.seq b.seq)
def evC (a b : EvT) : Int:=orI (keyC a.key b.key) (orI (cmpI a.emp b.emp) (orI (cmpI a.time b.time) (orI (cmpI a.kind b.kind) (keyC a.target b.target))))
def stC (a b : StampT) : Int:=orI (cmpI a.time b.time) (keyC a.key b.key)
structure Tot {α:Type} (C:α→α→Int) : Prop where
 vals:∀ a b,C a b = -1 ∨ C a b = 0 ∨ C a b = 1
 swap:∀ a b,C b a = - C a b
 trans:∀ a b c,C a b = -1→C b c = -1→C a c = -1
 sub:∀ a b c,C a b = 0→C a c = C b c
theorem cmpI_tot : Tot cmpI:=by
 refine ⟨fun a b=>?_,fun a b=>?_,fun a b c=>?_,fun a b c=>?_⟩
 all_goals
  unfold cmpI
  repeat' split
  all_goals omega
theorem cmpI_zero {a b : Int} : cmpI a b = 0 ↔ a = b:=by
 unfold cmpI
 split
 ·
  omega
 ·
  split <;> omega
theorem orI_zero {a b : Int} : orI a b = 0 ↔ a = 0∧b = 0:=by
 unfold orI
 split
 ·
  rename_i h; simp [h]
 ·
  rename_i h; simp [h]
theorem Tot.or {α β γ : Type} {C:β→β→Int} {D:γ→γ→Int} (h:Tot C) (k:Tot D) (f:α→β) (g:α→γ) : Tot (fun a b=>orI (C (f a) (f b)) (D (g a) (g b))):=by
 refine ⟨fun a b=>?_,fun a b=>?_,fun a b c=>?_,fun a b c=>?_⟩
 ·
  have h1:=h.vals (f a) (f b)
  have h2:=k.vals (g a) (g b)
  simp only [orI]
  split <;> omega
 ·
  have h1:=h.swap (f a) (f b)
  have h2:=k.swap (g a) (g b)
  simp only [orI]
  rw [h1,h2]
  split <;> split <;> omega
 ·
  simp only [orI]
  intro h1 h2
  by_cases e1:C (f a) (f b) = 0
  ·
   rw [if_pos e1] at h1
   rw [h.sub _ _ (f c) e1]
   by_cases e2:C (f b) (f c) = 0
   ·
    rw [if_pos e2] at h2
    rw [if_pos e2]
    exact k.trans _ _ _ h1 h2
   ·
    rw [if_neg e2] at h2
    rw [if_neg e2]
    exact h2
  ·
   rw [if_neg e1] at h1
   by_cases e2:C (f b) (f c) = 0
   ·
    have h3:=h.swap (f c) (f a)
    have h4:=h.swap (f c) (f b)
    have h5:=h.sub (f c) (f b) (f a) (by omega)
    have h6:=h.swap (f a) (f b)
    have h7:C (f a) (f c) = -1:=by omega
    rw [h7]
    rfl
   ·
    rw [if_neg e2] at h2
    have:=h.trans _ _ _ h1 h2
    rw [this]
    rfl
 ·
  simp only [orI]
  intro h1
  have h2:C (f a) (f b) = 0∧D (g a) (g b) = 0:=orI_zero.1 h1
  rw [h.sub _ _ (f c) h2.1,k.sub _ _ (g c) h2.2]
theorem keyC_tot : Tot keyC:=cmpI_tot.or cmpI_tot KeyT.term KeyT.seq
theorem evC_tot : Tot evC:=keyC_tot.or (cmpI_tot.or (cmpI_tot.or (cmpI_tot.or keyC_tot EvT.kind EvT.target) EvT.time id) EvT.emp id) EvT.key id
theorem stC_tot : Tot stC:=cmpI_tot.or keyC_tot StampT.time StampT.key
theorem keyC_zero {a b : KeyT} : keyC a b = 0 ↔ a = b:=by
 unfold keyC
 rw [orI_zero,cmpI_zero,cmpI_zero]
 cases a; cases b
 simp
theorem evC_zero {a b : EvT} : evC a b = 0 ↔ a = b:=by
 unfold evC
 rw [orI_zero,orI_zero,orI_zero,orI_zero,keyC_zero,keyC_zero,cmpI_zero,cmpI_zero,cmpI_zero]
 cases a; cases b
 simp
section
variable {α:Type} {C:α→α→Int}
theorem Tot.irr (h:Tot C) (a:α) : C a a = 0:=by
 have:=h.swap a a
 omega
def insC (C:α→α→Int) (x:α) : List α→List α
 | []=>[x]
 | y :: l=>if C x y = 0 then y :: l else if C x y = -1 then x :: y :: l else y :: insC C x l
def uniC (C:α→α→Int) (l:List α) : List α:=l.foldr (insC C) []
def srtC (C:α→α→Int) (l:List α) : Prop:=l.Pairwise (fun a b=>C a b = -1)
theorem insC_mem (C:α→α→Int) (hz : ∀ a b,C a b = 0→a = b) (x:α) : ∀ (l:List α) (z:α),z ∈ insC C x l ↔ z = x ∨ z ∈ l
 | [],z=>by simp [insC]
 | y :: l,z=>by
  rw [insC]
  split
  ·
   rename_i e
   have:=hz _ _ e
   subst this
   simp
  ·
   split
   ·
    simp
   ·
    rw [List.mem_cons,insC_mem C hz x l z,List.mem_cons]
    constructor <;> (rintro (h | h | h) <;> simp [h])
theorem insC_srt (h:Tot C) (hz : ∀ a b,C a b = 0→a = b) (x:α) : ∀ (l:List α),srtC C l→srtC C (insC C x l)
 | [],_=>List.pairwise_singleton _ _
 | y :: l,hl=>by
  have hl':=List.pairwise_cons.1 hl
  rw [insC]
  split
  ·
   exact hl
  ·
   split
   ·
    rename_i e
    exact List.pairwise_cons.2 ⟨fun z hz'=>by
     rcases List.mem_cons.1 hz' with rfl | hz'
     ·
      exact e
     ·
      exact h.trans _ _ _ e (hl'.1 z hz'),hl⟩
   ·
    rename_i e1 e2
    refine List.pairwise_cons.2 ⟨fun z hz'=>?_,insC_srt h hz x l hl'.2⟩
    rcases (insC_mem C hz x l z).1 hz' with rfl | hz'
    ·
     have:=h.vals z y
     have:=h.swap z y
     omega
    ·
     exact hl'.1 z hz'
theorem uniC_mem (hz : ∀ a b,C a b = 0→a = b) : ∀ (l:List α) (z:α),z ∈ uniC C l ↔ z ∈ l
 | [],z=>by simp [uniC]
 | y :: l,z=>by
  show z ∈ insC C y (uniC C l) ↔ _
  rw [insC_mem C hz,uniC_mem hz l,List.mem_cons]
theorem uniC_srt (h:Tot C) (hz : ∀ a b,C a b = 0→a = b) : ∀ (l:List α),srtC C (uniC C l)
 | []=>List.Pairwise.nil
 | y :: l=>insC_srt h hz y _ (uniC_srt h hz l)
theorem srtC_ext (h:Tot C) : ∀ {a b : List α},srtC C a→srtC C b→(∀ z,z ∈ a ↔ z ∈ b)→a = b
 | [],[],_,_,_=>rfl
 | [],y :: b,_,_,hm=>by
  have:=(hm y).2 (by simp)
  cases this
 | x :: a,[],_,_,hm=>by
  have:=(hm x).1 (by simp)
  cases this
 | x :: a,y :: b,ha,hb,hm=>by
  have ha':=List.pairwise_cons.1 ha
  have hb':=List.pairwise_cons.1 hb
  have e:x = y:=by
   rcases List.mem_cons.1 ((hm x).1 (by simp)) with e | hx
   ·
    exact e
   ·
    rcases List.mem_cons.1 ((hm y).2 (by simp)) with e | hy
    ·
     exact e.symm
    ·
     have h1:=hb'.1 x hx
     have h2:=ha'.1 y hy
     have:=h.swap x y
     omega
  subst e
  congr 1
  refine srtC_ext h ha'.2 hb'.2 fun z=>⟨fun hz=>?_,fun hz=>?_⟩
  ·
   rcases List.mem_cons.1 ((hm z).1 (by simp [hz])) with e | hz'
   ·
    subst e
    have:=ha'.1 z hz
    have:=h.irr z
    omega
   ·
    exact hz'
  ·
   rcases List.mem_cons.1 ((hm z).2 (by simp [hz])) with e | hz'
   ·
    subst e
    have:=hb'.1 z hz
    have:=h.irr z
    omega
   ·
    exact hz'
theorem insC_count (p:α→Bool) (x:α) : ∀ (l:List α),((insC C x l).filter p).length≤(l.filter p).length+(if p x = true then 1 else 0)
 | []=>by
  rw [insC]
  cases hp:p x <;> simp [hp]
 | y :: l=>by
  have ih:=insC_count p x l
  rw [insC]
  split
  ·
   omega
  ·
   split
   ·
    cases hp:p x <;> simp [List.filter_cons,hp]
   ·
    rw [List.filter_cons,List.filter_cons]
    split
    ·
     simp only [List.length_cons]; omega
    ·
     exact ih
theorem uniC_count (p:α→Bool) : ∀ (l:List α),((uniC C l).filter p).length≤(l.filter p).length
 | []=>by simp [uniC]
 | y :: l=>by
  have h1:=insC_count (C:=C) p y (uniC C l)
  have h2:=uniC_count p l
  show ((insC C y (uniC C l)).filter p).length≤_
  rw [List.filter_cons]
  cases hp:p y
  ·
   rw [hp] at h1
   simp at h1 ⊢
   omega
  ·
   rw [hp] at h1
   simp at h1 ⊢
   omega
end
def cntN (emp:Int) : Option KeyT→List EvT→List EvT
 | _,[]=>[]
 | k,e :: l=>(if k = some e.key then [] else if e.emp = emp then [e] else [])++cntN emp (some e.key) l
def cntF (emp:Int) (l:List EvT) : List EvT:=cntN emp none (uniC evC l)
def cancB (l:List EvT) (k:KeyT) : Bool:=l.any fun e=>decide (e.kind = 5∧e.target = k)
def corrT (l:List EvT) (k:KeyT) : Option Int:=(l.foldl (fun t e=>if e.kind = 6∧e.target = k then some e.time else t) none)
def stampsN (l:List EvT) : List StampT:=(l.filter fun e=>!(decide (e.kind = 5) || decide (e.kind = 6) || cancB l e.key)).map fun e=>⟨(corrT l e.key).getD e.time,e.kind,e.key⟩
def effN (l:List EvT) (emp:Int) : List StampT:=uniC stC (stampsN (cntF emp l))
theorem cntN_sub (emp:Int) : ∀ (l:List EvT) (k:Option KeyT),(cntN emp k l).Sublist l
 | [],_=>List.Sublist.slnil
 | e :: l,k=>by
  rw [cntN]
  have ih:=cntN_sub emp l (some e.key)
  split
  ·
   exact ih.cons _
  ·
   split
   ·
    exact ih.cons_cons _
   ·
    exact ih.cons _
end Go.Proofs.YtopekilofdadnaaGreatDoor
namespace Go.Proofs.YtopekilofdadnaaGreatDoor
open Go.RowKit
def sumIv (l:List IvT) : Int:=(l.map fun v=>v.t - v.f).sum
theorem sumIv_nil : sumIv [] = 0:=rfl
theorem sumIv_cons (v:IvT) (l:List IvT) : sumIv (v :: l) = v.t - v.f+sumIv l:=by simp [sumIv]
theorem sumIv_app (a b : List IvT) : sumIv (a++b) = sumIv a+sumIv b:=by simp [sumIv]
def joinN (l:List IvT) (v:IvT) : List IvT :=
 if v.t≤v.f then l else match l.getLast? with
  | none=>[v]
  | some u=>if u.t = v.f then l.dropLast++[⟨u.f,v.t⟩] else l++[v]
theorem brOk_last {u:IvT} {hi:Int} : ∀ {l:List IvT} {lo:Int},brOk lo hi (l++[u])→brOk lo u.f l∧u.f < u.t∧u.t≤hi
 | [],_,k=>⟨k.1,k.2.1,k.2.2⟩
 | _ :: _,_,k=>⟨⟨k.1,k.2.1,(brOk_last k.2.2).1⟩,(brOk_last k.2.2).2⟩
theorem joinN_ok {lo:Int} {l:List IvT} {v:IvT} (h:brOk lo v.f l) (hv:v.f≤v.t) : brOk lo v.t (joinN l v)∧sumIv (joinN l v) = sumIv l+(v.t - v.f):=by
 unfold joinN
 split
 ·
  have:v.t = v.f:=by omega
  rw [this]
  exact ⟨h,by omega⟩
 ·
  have hlt:v.f < v.t:=by omega
  rcases List.eq_nil_or_concat l with rfl | ⟨r,u,rfl⟩
  ·
   refine ⟨⟨h,hlt,Int.le_refl _⟩,?_⟩
   simp [sumIv]
  ·
   rw [List.concat_eq_append] at h ⊢
   simp only [List.getLast?_append,List.getLast?_singleton,Option.some_or]
   obtain ⟨h1,h2,h3⟩:=brOk_last h
   split
   ·
    rename_i e
    rw [List.dropLast_concat]
    refine ⟨brOk_snoc (by omega) (Int.le_refl _) h1,?_⟩
    rw [sumIv_app,sumIv_app,sumIv_cons,sumIv_cons,sumIv_nil]
    show _+(v.t - u.f+0) = _
    omega
   ·
    refine ⟨brOk_snoc hlt (Int.le_refl _) (brOk_mono (Int.le_refl _) h),?_⟩
    rw [sumIv_app,sumIv_cons,sumIv_nil]
    omega
def cutN (t:Int) : List IvT→List IvT × Int→List IvT × Int
 | [],p=>p
 | o :: os,p=>if o.f < t then cutN t os (joinN p.1 ⟨p.2,o.f⟩,o.t) else p
def dropN (f:Int) : List IvT→List IvT
 | []=>[]
 | o :: os=>if o.t≤f then dropN f os else o :: os
def withoutN : List IvT→List IvT→List IvT→List IvT
 | r,_,[]=>r
 | r,os,v :: l=>let p:=cutN v.t (dropN v.f os) (r,v.f); withoutN (joinN p.1 ⟨p.2,v.t⟩) (dropN v.f os) l
def brsN (l:List PresT) : List IvT:=l.flatMap (·.br)
def staysN (l:List PresT) : List IvT:=l.map (·.stay)
def minN (p:PresT) : Int:=p.stay.t - p.stay.f - sumIv p.br
def minsN (l:List PresT) : Int:=(l.map minN).sum
theorem dropN_old {f:Int} : ∀ {a b : List IvT},(∀ x ∈ a,x.t≤f)→(∀ x ∈ b,f < x.t)→dropN f (a++b) = b
 | [],[],_,_=>rfl
 | [],x :: b,_,h=>by
  have:=h x (by simp)
  show (if x.t≤f then _ else _) = _
  rw [if_neg (by omega)]
 | x :: a,b,h,h'=>by
  show (if x.t≤f then dropN f (a++b) else _) = _
  rw [if_pos (h x (by simp))]
  exact dropN_old (fun y hy=>h y (by simp [hy])) h'
theorem cutN_stop {t:Int} {b:List IvT} {p:List IvT × Int} (h : ∀ x ∈ b,t≤x.f) : cutN t b p = p:=by
 cases b with
 | nil=>rfl
 | cons x b =>
  have:=h x (by simp)
  show (if x.f < t then _ else _) = _
  rw [if_neg (by omega)]
theorem cutN_ok {lo t : Int} {rest:List IvT} (hr : ∀ x ∈ rest,t≤x.f) : ∀ {b:List IvT} {r:List IvT} {f:Int},brOk lo f r→brOk f t b →
  brOk lo (cutN t (b++rest) (r,f)).2 (cutN t (b++rest) (r,f)).1∧(cutN t (b++rest) (r,f)).2≤t∧sumIv (cutN t (b++rest) (r,f)).1+(t - (cutN t (b++rest) (r,f)).2) = sumIv r+(t - f) - sumIv b
 | [],r,f,h,hb=>by
  rw [List.nil_append,cutN_stop hr]
  exact ⟨h,hb,by rw [sumIv_nil]; show sumIv r+(t - f) = _; omega⟩
 | x :: b,r,f,h,hb=>by
  obtain ⟨b1,b2,b3⟩:=hb
  have b4:=brOk_le b3
  obtain ⟨j1,j2⟩:=joinN_ok (v:=⟨f,x.f⟩) (l:=r) (lo:=lo) h b1
  have hx:x.f < t:=by omega
  have ih:=cutN_ok hr (b:=b) (r:=joinN r ⟨f,x.f⟩) (f:=x.t) (brOk_mono (Int.le_of_lt b2) j1) b3
  have e:cutN t (x :: b++rest) (r,f) = cutN t (b++rest) (joinN r ⟨f,x.f⟩,x.t):=by
   show (if x.f < t then _ else _) = _
   rw [if_pos hx]
   rfl
  rw [e,sumIv_cons]
  refine ⟨ih.1,ih.2.1,?_⟩
  have:=ih.2.2
  rw [j2] at this
  show _ = sumIv r+(t - f) - (x.t - x.f+sumIv b)
  simp only at this
  omega
theorem brOk_in {hi:Int} : ∀ {l:List IvT} {lo:Int},brOk lo hi l→∀ x ∈ l,lo≤x.f∧x.f < x.t∧x.t≤hi
 | [],_,_,x,hx=>by cases hx
 | b :: r,lo,k,x,hx=>by
  rcases List.mem_cons.1 hx with rfl | hx
  ·
   exact ⟨k.1,k.2.1,brOk_le k.2.2⟩
  ·
   have:=brOk_in k.2.2 x hx
   have:=k.1
   have:=k.2.1
   omega
theorem prOk_brs {hi:Int} : ∀ {l:List PresT} {lo:Int},prOk lo hi l→∀ x ∈ brsN l,lo≤x.f∧x.f < x.t∧x.t≤hi
 | [],_,_,x,hx=>by cases hx
 | p :: r,lo,k,x,hx=>by
  obtain ⟨k1,k2,k3,k4⟩:=k
  rcases List.mem_append.1 (show x ∈ p.br++brsN r from hx) with hx | hx
  ·
   have:=brOk_in k3 x hx
   have:=prOk_le k4
   omega
  ·
   have:=prOk_brs k4 x hx
   omega
theorem withoutN_ok {lo hi : Int} : ∀ {l:List PresT} {r old : List IvT} {now:Int},brOk lo now r→prOk now hi l→(∀ x ∈ old,x.t≤now) →
  brOk lo hi (withoutN r (old++brsN l) (staysN l))∧sumIv (withoutN r (old++brsN l) (staysN l)) = sumIv r+minsN l
 | [],r,old,now,h,hp,_=>⟨brOk_mono hp h,by simp [withoutN,staysN,minsN]⟩
 | p :: l,r,old,now,h,hp,ho=>by
  obtain ⟨k1,k2,k3,k4⟩:=hp
  have hd:dropN p.stay.f (old++brsN (p :: l)) = p.br++brsN l:=by
   refine dropN_old (fun x hx=>by have:=ho x hx; omega) (fun x hx=>?_)
   rcases List.mem_append.1 (show x ∈ p.br++brsN l from hx) with hx | hx
   ·
    have:=brOk_in k3 x hx; omega
   ·
    have:=prOk_brs k4 x hx; omega
  have hrest:∀ x ∈ brsN l,p.stay.t≤x.f:=fun x hx=>(prOk_brs k4 x hx).1
  obtain ⟨c1,c2,c3⟩:=cutN_ok (t:=p.stay.t) hrest (b:=p.br) (r:=r) (f:=p.stay.f) (brOk_mono k1 h) k3
  have e:withoutN r (old++brsN (p :: l)) (staysN (p :: l)) = withoutN (joinN (cutN p.stay.t (p.br++brsN l) (r,p.stay.f)).1 ⟨(cutN p.stay.t (p.br++brsN l) (r,p.stay.f)).2,p.stay.t⟩) (p.br++brsN l) (staysN l):=by
   show withoutN (joinN (cutN p.stay.t (dropN p.stay.f _) _).1 ⟨(cutN p.stay.t (dropN p.stay.f _) _).2,p.stay.t⟩) (dropN p.stay.f _) (staysN l) = _
   rw [hd]
  rw [e]
  generalize cutN p.stay.t (p.br++brsN l) (r,p.stay.f) = q at *
  obtain ⟨j1,j2⟩:=joinN_ok (v:=⟨q.2,p.stay.t⟩) (l:=q.1) (lo:=lo) c1 c2
  obtain ⟨w1,w2⟩:=withoutN_ok (l:=l) (r:=joinN q.1 ⟨q.2,p.stay.t⟩) (old:=p.br) (now:=p.stay.t) j1 k4 (fun x hx=>(brOk_in k3 x hx).2.2)
  refine ⟨w1,?_⟩
  rw [w2,j2]
  show _ = sumIv r+(minN p :: l.map minN).sum
  rw [List.sum_cons]
  show _ = sumIv r+(p.stay.t - p.stay.f - sumIv p.br+minsN l)
  simp only at *
  omega
def apart (a b : List IvT) : Prop:=∀ x ∈ a,∀ y ∈ b,x.t≤y.f ∨ y.t≤x.f
end Go.Proofs.YtopekilofdadnaaGreatDoor
namespace Go.Proofs.YtopekilofdadnaaGreatDoor
open Go.RowKit
structure BandT where
 name:ByteArray
 after:Int
structure BandsT where
 normal:ByteArray
 day:List BandT
 week:List BandT
structure SpT where
 day:Int
 iv:IvT
structure PcT where
 day:Int
 iv:IvT
 band:ByteArray
def findB (n:Int) : Int→List BandT→Int × Int
 | i,[]=>(i - 1,100000)
 | i,b :: r=>if n < b.after then (i - 1,b.after - n) else findB n (i+1) r
theorem findB_pos (n:Int) : ∀ (l:List BandT) (i:Int),1≤(findB n i l).2∧i - 1≤(findB n i l).1∧(findB n i l).1≤i - 1+l.length
 | [],i=>by simp [findB]
 | b :: r,i=>by
  rw [findB]
  split
  ·
   exact ⟨by show 1≤b.after - n; omega,by show i - 1≤i - 1; omega,by show i - 1≤_; simp; omega⟩
  ·
   have:=findB_pos n r (i+1)
   simp only [List.length_cons]
   omega
def upd (m:Int→Int) (k v : Int) : Int→Int:=fun x=>if x = k then v else m x
structure DvS where
 days:Int→Int
 weeks:Int→Int
 pcs:List PcT
def monN (day:Int) : Int:=day - (day+3) % 7
def nextB (r:BandsT) (d:DvS) (day most : Int) : ByteArray × Int :=
 let p:=findB (d.days day) 0 r.day
 let q:=findB (d.weeks (monN day)) 0 r.week
 if 0≤p.1 then ((r.day.getD p.1.toNat ⟨⟨#[]⟩,0⟩).name,min p.2 most)
 else (if 0≤q.1 then (r.week.getD q.1.toNat ⟨⟨#[]⟩,0⟩).name else r.normal,min (min p.2 most) q.2)
def nextD (r:BandsT) (d:DvS) (day most : Int) : DvS :=
 let n:=(nextB r d day most).2
 { d with days:=upd d.days day (d.days day+n),weeks:=if 0≤(findB (d.days day) 0 r.day).1 then d.weeks else upd d.weeks (monN day) (d.weeks (monN day)+n) }
theorem nextB_pos (r:BandsT) (d:DvS) (day:Int) {most:Int} (h:1≤most) : 1≤(nextB r d day most).2∧(nextB r d day most).2≤most:=by
 have h1:=findB_pos (d.days day) r.day 0
 have h2:=findB_pos (d.weeks (monN day)) r.week 0
 unfold nextB
 simp only
 split
 ·
  show 1≤min _ _∧min _ _≤most
  omega
 ·
  show 1≤min (min _ _) _∧min (min _ _) _≤most
  omega
def addPc (l:List PcT) (p:PcT) : List PcT :=
 match l.getLast? with
 | none=>[p]
 | some u=>if u.day = p.day∧u.band = p.band∧u.iv.t = p.iv.f then l.dropLast++[⟨u.day,⟨u.iv.f,p.iv.t⟩,u.band⟩] else l++[p]
def divL (r:BandsT) (day t : Int) : Nat→DvS→Int→DvS
 | 0,d,_=>d
 | k+1,d,f=>if f < t then
   let b:=nextB r d day (t - f)
   divL r day t k { nextD r d day (t - f) with pcs:=addPc d.pcs ⟨day,⟨f,f+b.2⟩,b.1⟩ } (f+b.2)
  else d
def dv0 : DvS:=⟨fun _=>0,fun _=>0,[]⟩
def divTo (r:BandsT) (S:List SpT) : DvS:=S.foldl (fun d s=>divL r s.day s.iv.t (s.iv.t - s.iv.f).toNat d s.iv.f) dv0
def divN (r:BandsT) (S:List SpT) : List PcT:=(divTo r S).pcs
def pcDay (day:Int) (l:List PcT) : Int:=(l.map fun p=>if p.day = day then p.iv.t - p.iv.f else 0).sum
def spDay (day:Int) (l:List SpT) : Int:=(l.map fun p=>if p.day = day then p.iv.t - p.iv.f else 0).sum
structure PcOk (lo hi : Int) (l:List PcT) : Prop where
 ok:∀ p ∈ l,0≤p.iv.f∧p.iv.f < p.iv.t∧p.iv.t≤hi∧0≤p.day∧p.day≤84005
 len:(l.length:Int)≤lo
theorem addPc_ok {l:List PcT} {p:PcT} {n hi : Int} (h:PcOk n hi l) (h0:0≤p.iv.f) (h1:p.iv.f < p.iv.t) (h2:p.iv.t≤hi) (h3:0≤p.day) (h4:p.day≤84005) :
  PcOk (n+(p.iv.t - p.iv.f)) hi (addPc l p)∧∀ day,pcDay day (addPc l p) = pcDay day l+(if p.day = day then p.iv.t - p.iv.f else 0):=by
 have hl:=h.len
 unfold addPc
 rcases List.eq_nil_or_concat l with rfl | ⟨r,u,rfl⟩
 ·
  refine ⟨⟨fun q hq=>?_,?_⟩,fun day=>?_⟩
  ·
   have hq':q = p:=by simpa using hq
   subst hq'
   exact ⟨h0,h1,h2,h3,h4⟩
  ·
   simp only [List.length_nil] at hl
   simp
   omega
  ·
   simp [pcDay]
 ·
  rw [List.concat_eq_append] at h hl ⊢
  simp only [List.getLast?_append,List.getLast?_singleton,Option.some_or]
  obtain ⟨u0,u1,u2,u3,u4⟩:=h.ok u (by simp)
  split
  ·
   rename_i e
   obtain ⟨e1,e2,e3⟩:=e
   rw [List.dropLast_concat]
   refine ⟨⟨fun q hq=>?_,?_⟩,fun day=>?_⟩
   ·
    rcases List.mem_append.1 hq with hq | hq
    ·
     exact h.ok q (by simp [hq])
    ·
     rw [List.mem_singleton] at hq
     subst hq
     exact ⟨u0,by show u.iv.f < p.iv.t; omega,h2,u3,u4⟩
   ·
    simp only [List.length_append,List.length_singleton] at hl ⊢
    omega
   ·
    simp only [pcDay,List.map_append,List.map_cons,List.map_nil,List.sum_append,List.sum_cons,List.sum_nil]
    by_cases hd:u.day = day
    ·
     rw [if_pos hd,if_pos hd,if_pos (by omega)]
     omega
    ·
     rw [if_neg hd,if_neg hd,if_neg (by omega)]
     omega
  ·
   refine ⟨⟨fun q hq=>?_,?_⟩,fun day=>?_⟩
   ·
    rcases List.mem_append.1 hq with hq | hq
    ·
     exact h.ok q hq
    ·
     rw [List.mem_singleton] at hq
     subst hq
     exact ⟨h0,h1,h2,h3,h4⟩
   ·
    simp only [List.length_append,List.length_singleton] at hl ⊢
    omega
   ·
    simp only [pcDay,List.map_append,List.map_cons,List.map_nil,List.sum_append,List.sum_cons,List.sum_nil]
    omega
theorem divL_ok (r:BandsT) {day t hi : Int} (h3:0≤day) (h4:day≤84005) (ht:t≤hi) : ∀ (k:Nat) (d:DvS) (f n : Int),0≤f→f≤t→(t - f).toNat≤k→PcOk n hi d.pcs →
  PcOk (n+(t - f)) hi (divL r day t k d f).pcs∧∀ dd,pcDay dd (divL r day t k d f).pcs = pcDay dd d.pcs+(if day = dd then t - f else 0)
 | 0,d,f,n,h0,h1,hk,h=>by
  have:t = f:=by omega
  subst this
  refine ⟨⟨h.ok,by show (d.pcs.length:Int)≤_; have:=h.len; omega⟩,fun dd=>?_⟩
  show pcDay dd d.pcs = _
  split <;> omega
 | k+1,d,f,n,h0,h1,hk,h=>by
  rw [divL]
  by_cases hf:f < t
  ·
   rw [if_pos hf]
   obtain ⟨b1,b2⟩:=nextB_pos r d day (most:=t - f) (by omega)
   simp only
   generalize nextB r d day (t - f) = b at *
   obtain ⟨a1,a2⟩:=addPc_ok (p:=⟨day,⟨f,f+b.2⟩,b.1⟩) h h0 (by show f < f+b.2; omega) (by show f+b.2≤hi; omega) h3 h4
   obtain ⟨g1,g2⟩:=divL_ok r h3 h4 ht k { nextD r d day (t - f) with pcs:=addPc d.pcs ⟨day,⟨f,f+b.2⟩,b.1⟩ } (f+b.2) _ (by omega) (by omega) (by omega) a1
   refine ⟨?_,fun dd=>?_⟩
   ·
    have e:n+(f+b.2 - f)+(t - (f+b.2)) = n+(t - f):=by omega
    rw [← e]
    exact g1
   ·
    rw [g2 dd]
    show pcDay dd (addPc d.pcs _)+_ = _
    rw [a2 dd]
    show pcDay dd d.pcs+(if day = dd then f+b.2 - f else 0)+_ = _
    split <;> omega
  ·
   rw [if_neg hf]
   have:t = f:=by omega
   subst this
   refine ⟨⟨h.ok,by have:=h.len; omega⟩,fun dd=>?_⟩
   split <;> omega
theorem divTo_ok (r:BandsT) {hi:Int} : ∀ (S:List SpT) (d:DvS) (n:Int),PcOk n hi d.pcs→(∀ s ∈ S,0≤s.iv.f∧s.iv.f < s.iv.t∧s.iv.t≤hi∧0≤s.day∧s.day≤84005) →
  PcOk (n+(S.map fun s=>s.iv.t - s.iv.f).sum) hi (S.foldl (fun d s=>divL r s.day s.iv.t (s.iv.t - s.iv.f).toNat d s.iv.f) d).pcs ∧
  ∀ dd,pcDay dd (S.foldl (fun d s=>divL r s.day s.iv.t (s.iv.t - s.iv.f).toNat d s.iv.f) d).pcs = pcDay dd d.pcs+spDay dd S
 | [],d,n,h,_=>⟨by simpa using h,fun dd=>by simp [spDay]⟩
 | s :: S,d,n,h,hs=>by
  obtain ⟨s0,s1,s2,s3,s4⟩:=hs s (by simp)
  obtain ⟨a1,a2⟩:=divL_ok r s3 s4 s2 (s.iv.t - s.iv.f).toNat d s.iv.f n s0 (by omega) (by omega) h
  obtain ⟨g1,g2⟩:=divTo_ok r S _ _ a1 (fun x hx=>hs x (by simp [hx]))
  rw [List.foldl_cons]
  refine ⟨?_,fun dd=>?_⟩
  ·
   rw [List.map_cons,List.sum_cons,← Int.add_assoc]
   exact g1
  ·
   rw [g2 dd,a2 dd]
   simp only [spDay,List.map_cons,List.sum_cons]
   omega
theorem divN_ok (r:BandsT) {hi:Int} {S:List SpT} (hs : ∀ s ∈ S,0≤s.iv.f∧s.iv.f < s.iv.t∧s.iv.t≤hi∧0≤s.day∧s.day≤84005) :
  PcOk (S.map fun s=>s.iv.t - s.iv.f).sum hi (divN r S)∧∀ dd,pcDay dd (divN r S) = spDay dd S:=by
 obtain ⟨h1,h2⟩:=divTo_ok r (hi:=hi) S dv0 0 ⟨fun p hp=>(by cases hp),by simp [dv0]⟩ hs
 refine ⟨by rw [Int.zero_add] at h1; exact h1,fun dd=>?_⟩
 have:=h2 dd
 rw [show pcDay dd dv0.pcs = 0 from rfl,Int.zero_add] at this
 exact this
structure TmT where
 name:ByteArray
 min:Int
deriving DecidableEq
def putTm (l:List TmT) (c:ByteArray) (n:Int) : List TmT :=
 if l.any (fun x=>decide (x.name = c)) then l.map (fun x=>if x.name = c then ⟨x.name,x.min+n⟩ else x) else l++[⟨c,n⟩]
def totN (l:List PcT) (day:Int) : List TmT:=l.foldl (fun t p=>if p.day = day then putTm t p.band (p.iv.t - p.iv.f) else t) []
def sumTm (l:List TmT) : Int:=(l.map (·.min)).sum
theorem sumTm_map (c:ByteArray) (n:Int) : ∀ (l:List TmT),(l.map (·.name)).Nodup→(∃ x ∈ l,x.name = c)→sumTm (l.map (fun x=>if x.name = c then ⟨x.name,x.min+n⟩ else x)) = sumTm l+n
 | [],_,h=>by obtain ⟨x,hx,_⟩:=h; cases hx
 | y :: l,hn,h=>by
  rw [List.map_cons,List.nodup_cons] at hn
  simp only [sumTm,List.map_cons,List.sum_cons]
  by_cases e:y.name = c
  ·
   have hz:∀ x ∈ l,x.name ≠ c:=fun x hx ex=>hn.1 (by rw [e,← ex]; exact List.mem_map_of_mem hx)
   have hm:l.map (fun x=>if x.name = c then (⟨x.name,x.min+n⟩ : TmT) else x) = l:=by
    conv=>rhs; rw [← List.map_id l]
    exact List.map_congr_left fun x hx=>if_neg (hz x hx)
   rw [if_pos e,hm]
   show y.min+n+_ = _
   omega
  ·
   rw [if_neg e]
   obtain ⟨x,hx,ex⟩:=h
   have hx':x ∈ l:=by
    rcases List.mem_cons.1 hx with rfl | hx
    ·
     exact absurd ex e
    ·
     exact hx
   have:=sumTm_map c n l hn.2 ⟨x,hx',ex⟩
   unfold sumTm at this
   omega
theorem putTm_ok {l:List TmT} {c:ByteArray} {n:Int} (h : (l.map (·.name)).Nodup) : ((putTm l c n).map (·.name)).Nodup∧sumTm (putTm l c n) = sumTm l+n:=by
 unfold putTm
 split
 ·
  rename_i ha
  obtain ⟨x,hx,ex⟩:=List.any_eq_true.1 ha
  refine ⟨?_,sumTm_map c n l h ⟨x,hx,by simpa using ex⟩⟩
  have e:(l.map (fun x=>if x.name = c then (⟨x.name,x.min+n⟩ : TmT) else x)).map (·.name) = l.map (·.name):=by
   rw [List.map_map]
   exact List.map_congr_left fun x _=>by simp only [Function.comp]; split <;> rfl
  rw [e]
  exact h
 ·
  rename_i ha
  refine ⟨?_,by simp [sumTm]⟩
  rw [List.map_append,List.nodup_append]
  refine ⟨h,by simp,fun a ha' b hb e=>?_⟩
  simp only [List.map_cons,List.map_nil,List.mem_singleton] at hb
  obtain ⟨x,hx,rfl⟩:=List.mem_map.1 ha'
  exact ha (List.any_eq_true.2 ⟨x,hx,by simp [e,hb]⟩)
theorem totN_ok (day:Int) : ∀ (l:List PcT) (t:List TmT),(t.map (·.name)).Nodup →
  ((l.foldl (fun t p=>if p.day = day then putTm t p.band (p.iv.t - p.iv.f) else t) t).map (·.name)).Nodup∧sumTm (l.foldl (fun t p=>if p.day = day then putTm t p.band (p.iv.t - p.iv.f) else t) t) = sumTm t+pcDay day l
 | [],t,h=>⟨h,by simp [pcDay]⟩
 | p :: l,t,h=>by
  rw [List.foldl_cons]
  simp only [pcDay,List.map_cons,List.sum_cons]
  by_cases e:p.day = day
  ·
   obtain ⟨a1,a2⟩:=putTm_ok (c:=p.band) (n:=p.iv.t - p.iv.f) h
   obtain ⟨g1,g2⟩:=totN_ok day l _ a1
   rw [if_pos e,if_pos e]
   refine ⟨g1,?_⟩
   rw [g2,a2]
   unfold pcDay
   omega
  ·
   obtain ⟨g1,g2⟩:=totN_ok day l t h
   rw [if_neg e,if_neg e]
   refine ⟨g1,?_⟩
   rw [g2]
   unfold pcDay
   omega
end Go.Proofs.YtopekilofdadnaaGreatDoor
namespace Go.Proofs.YtopekilofdadnaaGreatDoor
open Go.RowKit
structure ShiftT where
 day:Int
 start:Int
 min:Int
structure DutyT where
 shift:Int
 day:Int
 ps:List PresT
def bel1 (b early late : Int) (i:Int) (v:IvT) (q:Int × Int) : Int × Int :=
 let dist:=b - v.f
 if (-early≤dist∧dist≤late) ∨ (0≤dist∧b < v.t) then (if q.1 < 0 ∨ max dist (-dist) < q.2 then (i,max dist (-dist)) else q) else q
def belTo (b early late : Int) (l:List IvT) : Nat→Int × Int
 | 0=>(-1,0)
 | n+1=>bel1 b early late n (l.getD n ⟨0,0⟩) (belTo b early late l n)
def belN (b early late : Int) (l:List IvT) : Int:=(belTo b early late l l.length).1
theorem belTo_bd (b early late : Int) (l:List IvT) : ∀ n,-1≤(belTo b early late l n).1∧(belTo b early late l n).1 < n
 | 0=>by simp [belTo]
 | n+1=>by
  have h:=belTo_bd b early late l n
  simp only [belTo,bel1]
  split
  ·
   split
   ·
    show -1≤(n:Int)∧(n:Int) < _
    omega
   ·
    omega
  ·
   omega
theorem belN_bd (b early late : Int) (l:List IvT) : -1≤belN b early late l∧belN b early late l < l.length:=belTo_bd b early late l l.length
def shiftOf (early late : Int) (sp:List IvT) (p:PresT) : Int:=belN p.stay.f early late sp
def dayOf (z:ZoneT) (plan:List ShiftT) (s:Int) (p:PresT) : Int:=if 0≤s then (plan.getD s.toNat ⟨0,0,0⟩).day else dayN z p.stay.f
def putDu (l:List DutyT) (s d : Int) (p:PresT) : List DutyT :=
 if l.any (fun x=>decide (x.shift = s∧x.day = d)) then l.map (fun x=>if x.shift = s∧x.day = d then ⟨x.shift,x.day,x.ps++[p]⟩ else x) else l++[⟨s,d,[p]⟩]
def assignN (z:ZoneT) (plan:List ShiftT) (sp:List IvT) (early late : Int) (P:List PresT) : List DutyT :=
 P.foldl (fun l p=>putDu l (shiftOf early late sp p) (dayOf z plan (shiftOf early late sp p) p) p) []
def keyD (x:DutyT) : Int × Int:=(x.shift,x.day)
def sumDu (l:List DutyT) : Int:=(l.map fun d=>minsN d.ps).sum
theorem minsN_app (a b : List PresT) : minsN (a++b) = minsN a+minsN b:=by simp [minsN]
def prApart (a b : List PresT) : Prop:=∀ x ∈ a,∀ y ∈ b,x.stay.t≤y.stay.f ∨ y.stay.t≤x.stay.f
structure DuOk (now:Int) (l:List DutyT) : Prop where
 nd:(l.map keyD).Nodup
 pr:∀ d ∈ l,prOk 0 now d.ps
 ne:∀ d ∈ l,d.ps ≠ []
 ap:l.Pairwise (fun a b=>prApart a.ps b.ps)
theorem prOk_in {hi:Int} : ∀ {l:List PresT} {lo:Int},prOk lo hi l→∀ x ∈ l,lo≤x.stay.f∧x.stay.f < x.stay.t∧x.stay.t≤hi∧brOk x.stay.f x.stay.t x.br
 | [],_,_,x,hx=>by cases hx
 | p :: r,lo,k,x,hx=>by
  rcases List.mem_cons.1 hx with rfl | hx
  ·
   exact ⟨k.1,k.2.1,prOk_le k.2.2.2,k.2.2.1⟩
  ·
   have h:=prOk_in k.2.2.2 x hx
   have:=k.1
   have:=k.2.1
   exact ⟨by omega,h.2.1,h.2.2.1,h.2.2.2⟩
theorem sumDu_map (s d : Int) (p:PresT) : ∀ (l:List DutyT),(l.map keyD).Nodup→(∃ x ∈ l,x.shift = s∧x.day = d)→sumDu (l.map (fun x=>if x.shift = s∧x.day = d then ⟨x.shift,x.day,x.ps++[p]⟩ else x)) = sumDu l+minN p
 | [],_,h=>by obtain ⟨x,hx,_⟩:=h; cases hx
 | y :: l,hn,h=>by
  rw [List.map_cons,List.nodup_cons] at hn
  simp only [sumDu,List.map_cons,List.sum_cons]
  by_cases e:y.shift = s∧y.day = d
  ·
   have hz:∀ x ∈ l,¬ (x.shift = s∧x.day = d):=fun x hx ex=>hn.1 (by
    have:keyD y = keyD x:=by unfold keyD; rw [e.1,e.2,ex.1,ex.2]
    rw [this]
    exact List.mem_map_of_mem hx)
   have hm:l.map (fun x=>if x.shift = s∧x.day = d then (⟨x.shift,x.day,x.ps++[p]⟩ : DutyT) else x) = l:=by
    conv=>rhs; rw [← List.map_id l]
    exact List.map_congr_left fun x hx=>if_neg (hz x hx)
   rw [if_pos e,hm]
   show minsN (y.ps++[p])+_ = _
   rw [minsN_app]
   simp only [minsN,List.map_cons,List.map_nil,List.sum_cons,List.sum_nil]
   omega
  ·
   rw [if_neg e]
   obtain ⟨x,hx,ex⟩:=h
   have hx':x ∈ l:=by
    rcases List.mem_cons.1 hx with rfl | hx
    ·
     exact absurd ex e
    ·
     exact hx
   have:=sumDu_map s d p l hn.2 ⟨x,hx',ex⟩
   unfold sumDu at this
   omega
theorem putDu_ok {l:List DutyT} {now:Int} {s d : Int} {p:PresT} (h:DuOk now l) (h0:0≤now) (h1:now≤p.stay.f) (h2:p.stay.f < p.stay.t) (h3:brOk p.stay.f p.stay.t p.br) :
  DuOk p.stay.t (putDu l s d p)∧sumDu (putDu l s d p) = sumDu l+minN p:=by
 have hold:∀ x ∈ l,prOk 0 p.stay.f x.ps:=fun x hx=>prOk_mono h1 (h.pr x hx)
 have hap:∀ x ∈ l,∀ y ∈ x.ps,y.stay.t≤p.stay.f:=fun x hx y hy=>by have:=prOk_in (h.pr x hx) y hy; omega
 unfold putDu
 split
 ·
  rename_i ha
  obtain ⟨x,hx,ex⟩:=List.any_eq_true.1 ha
  have ek:∀ x:DutyT,keyD (if x.shift = s∧x.day = d then ⟨x.shift,x.day,x.ps++[p]⟩ else x) = keyD x:=fun x=>by split <;> rfl
  refine ⟨⟨?_,fun y hy=>?_,fun y hy=>?_,?_⟩,sumDu_map s d p l h.nd ⟨x,hx,by simpa using ex⟩⟩
  ·
   rw [List.map_map]
   rw [show (keyD ∘ fun x:DutyT=>if x.shift = s∧x.day = d then (⟨x.shift,x.day,x.ps++[p]⟩ : DutyT) else x) = keyD from funext ek]
   exact h.nd
  ·
   obtain ⟨y0,hy0,rfl⟩:=List.mem_map.1 hy
   split
   ·
    exact prOk_snoc h2 (Int.le_refl _) h3 (hold y0 hy0)
   ·
    exact prOk_mono (by omega) (hold y0 hy0)
  ·
   obtain ⟨y0,hy0,rfl⟩:=List.mem_map.1 hy
   split
   ·
    simp
   ·
    exact h.ne y0 hy0
  ·
   rw [List.pairwise_map]
   have hnd:=List.pairwise_map.1 h.nd
   refine (h.ap.and hnd).imp_of_mem fun {a b} ha' hb' hab=>?_
   obtain ⟨hab,hk⟩:=hab
   intro u hu v hv
   by_cases ea:a.shift = s∧a.day = d
   ·
    by_cases eb:b.shift = s∧b.day = d
    ·
     exact absurd (show keyD a = keyD b by unfold keyD; rw [ea.1,ea.2,eb.1,eb.2]) hk
    ·
     rw [if_pos ea] at hu
     rw [if_neg eb] at hv
     rcases List.mem_append.1 hu with hu | hu
     ·
      exact hab u hu v hv
     ·
      rw [List.mem_singleton] at hu
      subst hu
      exact .inr (hap b hb' v hv)
   ·
    rw [if_neg ea] at hu
    by_cases eb:b.shift = s∧b.day = d
    ·
     rw [if_pos eb] at hv
     rcases List.mem_append.1 hv with hv | hv
     ·
      exact hab u hu v hv
     ·
      rw [List.mem_singleton] at hv
      subst hv
      exact .inl (hap a ha' u hu)
    ·
     rw [if_neg eb] at hv
     exact hab u hu v hv
 ·
  rename_i ha
  refine ⟨⟨?_,fun y hy=>?_,fun y hy=>?_,?_⟩,?_⟩
  ·
   rw [List.map_append,List.nodup_append]
   refine ⟨h.nd,by simp,fun a ha' b hb e=>?_⟩
   simp only [List.map_cons,List.map_nil,List.mem_singleton] at hb
   obtain ⟨x,hx,rfl⟩:=List.mem_map.1 ha'
   refine ha (List.any_eq_true.2 ⟨x,hx,?_⟩)
   rw [hb] at e
   unfold keyD at e
   injection e with e1 e2
   simp [e1,e2]
  ·
   rcases List.mem_append.1 hy with hy | hy
   ·
    exact prOk_mono (by omega) (hold y hy)
   ·
    rw [List.mem_singleton] at hy
    subst hy
    exact prOk_snoc (l:=[]) h2 (Int.le_refl _) h3 (by show (0:Int)≤_; omega)
  ·
   rcases List.mem_append.1 hy with hy | hy
   ·
    exact h.ne y hy
   ·
    rw [List.mem_singleton] at hy
    subst hy
    simp
  ·
   refine List.pairwise_append.2 ⟨h.ap,List.pairwise_singleton _ _,fun a ha' b hb u hu v hv=>?_⟩
   rw [List.mem_singleton] at hb
   subst hb
   rw [List.mem_singleton] at hv
   subst hv
   exact .inl (hap a ha' u hu)
  ·
   simp [sumDu,minsN]
theorem assignN_ok (z:ZoneT) (plan:List ShiftT) (sp:List IvT) (early late : Int) : ∀ (P:List PresT) (l:List DutyT) (now hi : Int),DuOk now l→0≤now→prOk now hi P →
  DuOk hi (P.foldl (fun l p=>putDu l (shiftOf early late sp p) (dayOf z plan (shiftOf early late sp p) p) p) l)∧sumDu (P.foldl (fun l p=>putDu l (shiftOf early late sp p) (dayOf z plan (shiftOf early late sp p) p) p) l) = sumDu l+minsN P
 | [],l,now,hi,h,h0,hp=>⟨⟨h.nd,fun d hd=>prOk_mono hp (h.pr d hd),h.ne,h.ap⟩,by simp [minsN]⟩
 | p :: P,l,now,hi,h,h0,hp=>by
  obtain ⟨k1,k2,k3,k4⟩:=hp
  obtain ⟨a1,a2⟩:=putDu_ok (s:=shiftOf early late sp p) (d:=dayOf z plan (shiftOf early late sp p) p) h h0 k1 k2 k3
  obtain ⟨g1,g2⟩:=assignN_ok z plan sp early late P _ _ hi a1 (by omega) k4
  rw [List.foldl_cons]
  refine ⟨g1,?_⟩
  rw [g2,a2]
  simp only [minsN,List.map_cons,List.sum_cons]
  omega
def workN (ps:List PresT) : List IvT:=withoutN [] (brsN ps) (staysN ps)
theorem workN_ok {hi:Int} {ps:List PresT} (h:prOk 0 hi ps) : brOk 0 hi (workN ps)∧sumIv (workN ps) = minsN ps:=by
 have:=withoutN_ok (lo:=0) (hi:=hi) (l:=ps) (r:=[]) (old:=[]) (now:=0) (Int.le_refl _) h (fun x hx=>(by cases hx))
 simpa [workN,sumIv_nil] using this
end Go.Proofs.YtopekilofdadnaaGreatDoor
