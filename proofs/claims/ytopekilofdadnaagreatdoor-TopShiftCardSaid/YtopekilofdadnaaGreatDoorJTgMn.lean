/- Joined texts: TgMn. Conditions: as stated. -/
import Derived.Test.YtopekilofdadnaaGreatDoorJTgI
import Derived.Test.YtopekilofdadnaaGreatDoorJTgL2
namespace Go.Proofs.YtopekilofdadnaaGreatDoor
open Go.RowKit Go.Sort Go.Shelf
theorem EvG.evs {l:List EvT} {s2 s3 : Int} {c1 c2 : Nat} (h:EvG l s2 s3 c1 c2) (hl:l.length≤1024) : EvsOk l:=⟨hl,h.ok,h.nd⟩
theorem insC_len {α:Type} (C:α→α→Int) (x:α) : ∀ l : List α,(insC C x l).length≤l.length+1
 | []=>by simp [insC]
 | y :: l=>by
  have:=insC_len C x l
  rw [insC]
  split
  ·
   simp
  ·
   split
   ·
    simp
   ·
    simp only [List.length_cons]; omega
theorem uniC_len {α:Type} (C:α→α→Int) : ∀ l : List α,(uniC C l).length≤l.length
 | []=>by simp [uniC]
 | x :: l=>by
  have h1:=uniC_len C l
  have h2:=insC_len C x (uniC C l)
  show (insC C x (uniC C l)).length≤_
  rw [List.length_cons]
  omega
theorem putTm_in2 {l:List TmT} {c:ByteArray} {n:Int} (h : ∀ t ∈ l,0≤t.min∧t.name.size≤24) (hn:0≤n) (hc:c.size≤24) : (∀ t ∈ putTm l c n,0≤t.min∧t.name.size≤24)∧(putTm l c n).length≤l.length+1:=by
 unfold putTm
 split
 ·
  refine ⟨fun t ht=>?_,by simp⟩
  obtain ⟨x,hx,rfl⟩:=List.mem_map.1 ht
  have:=h x hx
  split
  ·
   exact ⟨by show 0≤x.min+n; omega,this.2⟩
  ·
   exact this
 ·
  refine ⟨fun t ht=>?_,by simp⟩
  rcases List.mem_append.1 ht with ht | ht
  ·
   exact h t ht
  ·
   rw [List.mem_singleton] at ht
   rw [ht]; exact ⟨hn,hc⟩
theorem totN_bd (day:Int) : ∀ (l:List PcT) (t:List TmT),(∀ p ∈ l,p.iv.f < p.iv.t∧p.band.size≤24)→(∀ x ∈ t,0≤x.min∧x.name.size≤24) →
  (∀ x ∈ l.foldl (fun t p=>if p.day = day then putTm t p.band (p.iv.t - p.iv.f) else t) t,0≤x.min∧x.name.size≤24)∧(l.foldl (fun t p=>if p.day = day then putTm t p.band (p.iv.t - p.iv.f) else t) t).length≤t.length+l.length
 | [],t,_,h=>⟨h,by simp⟩
 | p :: l,t,hp,h=>by
  rw [List.foldl_cons,List.length_cons]
  have h0:=hp p (by simp)
  by_cases e:p.day = day
  ·
   rw [if_pos e]
   obtain ⟨a1,a2⟩:=putTm_in2 (c:=p.band) (n:=p.iv.t - p.iv.f) h (by omega) h0.2
   obtain ⟨b1,b2⟩:=totN_bd day l _ (fun q hq=>hp q (by simp [hq])) a1
   exact ⟨b1,by omega⟩
  ·
   rw [if_neg e]
   obtain ⟨b1,b2⟩:=totN_bd day l t (fun q hq=>hp q (by simp [hq])) h
   exact ⟨b1,by omega⟩
theorem rows_ok {w:World} {r:RulM} {B:Option Addr} {plan:List ShiftT} {A:Option Addr} {l:List EvT} {emp:Int} (h:EvIn w r B plan A l emp) (h0:spErr r.z.t none plan = 0) (hl:l.length≤20) (hm:minsN (pairN r.lo (effN l emp)).1≤3600)
  {rows:List RowM} (hr:rows.map RowM.t = resN r.z.t (pcN r plan l emp) (anN r l emp) 0 84005) : RowsOk rows∧sumDays (rows.map RowM.t) = minsN (pairN r.lo (effN l emp)).1:=by
 obtain ⟨_,hp1,hp2⟩:=h.p h0
 have hpb:∀ p ∈ pcN r plan l emp,p.iv.f < p.iv.t∧p.band.size≤24:=fun p hp=>⟨(hp1.ok p hp).2.1,hp1.nm p hp⟩
 obtain ⟨s1,s2,s3,_⟩:=eff_ok (emp:=emp) h.eO.ok
 have han:=pair_an h.rul.lo (fun s hs=>(s1 s hs).1)
 have hsum:sumDays (rows.map RowM.t) = minsN (pairN r.lo (effN l emp)).1:=by
  rw [hr]
  exact eval_sum r.z.t r.b.t plan (plan.map (spOf r.z.t)) r.ea r.la (anN r l emp) (pres_ok (L:=r.lo) h.eO.ok).1 (fun s hs=>(h.pO s hs).d) (by rw [List.length_map])
 have hmem:∀ x ∈ rows,∃ d ∈ keysN r.z.t (pcN r plan l emp) (anN r l emp) 0 84005,x.d = d∧x.ti = totN (pcN r plan l emp) d:=fun x hx=>by
  have h1:x.t ∈ rows.map RowM.t:=List.mem_map_of_mem hx
  rw [hr] at h1
  obtain ⟨d,hd,he⟩:=List.mem_map.1 h1
  exact ⟨d,hd,(congrArg DayT.day he).symm,(congrArg DayT.times he).symm⟩
 have htot:=fun d=>totN_bd d (pcN r plan l emp) [] hpb (fun x hx=>by cases hx)
 refine ⟨⟨?_,fun x hx=>?_,fun x hx=>?_,fun x hx=>?_,by omega⟩,hsum⟩
 ·
  have h1:=congrArg List.length hr
  have h2:(resN r.z.t (pcN r plan l emp) (anN r l emp) 0 84005).length = (keysN r.z.t (pcN r plan l emp) (anN r l emp) 0 84005).length:=by unfold resN; rw [List.length_map]
  have h3:(keysN r.z.t (pcN r plan l emp) (anN r l emp) 0 84005).length≤(pcN r plan l emp).length+(anN r l emp).length:=by
   unfold keysN
   refine Nat.le_trans (uniC_len _ _) (Nat.le_trans (List.length_filter_le _ _) ?_)
   rw [List.length_append,List.length_map,List.length_map]
   omega
  have h4:=hp1.len
  have h5:(anN r l emp).length≤3 * (effN l emp).length+1:=han
  rw [List.length_map] at h1
  omega
 ·
  obtain ⟨d,hd,e,_⟩:=hmem x hx
  unfold keysN at hd
  rw [uniC_mem cmpI_eq,List.mem_filter] at hd
  rw [e]
  simpa using hd.2
 ·
  obtain ⟨d,_,_,e⟩:=hmem x hx
  have h1:=(htot d).2
  have h2:(totN (pcN r plan l emp) d).length≤[].length+(pcN r plan l emp).length:=h1
  have h3:=hp1.len
  rw [e]
  simp only [List.length_nil] at h2
  omega
 ·
  obtain ⟨d,_,_,e⟩:=hmem x hx
  rw [e]
  exact (htot d).1
end Go.Proofs.YtopekilofdadnaaGreatDoor
