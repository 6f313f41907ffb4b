/- Joined texts: Alc Data3 Mix R28 OwnSet R28b R28c. Conditions: as stated. -/
import Derived.Deep.RegionLaw
import Derived.Maps.AppendAt
import Derived.Deep.RegionHeld3
import Derived.Test.YtlhkojcmcmkmaaaGreatJData
import Derived.Test.YtlhkojcmcmkmaaaGreatJNetT
import Derived.Test.YtlhkojcmcmkmaaaGreatJNetP
import Derived.Test.YtlhkojcmcmkmaaaGreatJRec
namespace Go.Proofs.YtlhkojcmcmkmaaaGreat
open Go.RowKit
theorem alc_sizes {total:Int} {ws:List Int} (h0:0≤total) (h1:total≤1000000000) (hw : ∀ x ∈ ws,0≤x∧x≤1000000000) (hs:0 < sumI ws) {k:Nat} (hk:k < ws.length) :
  (0≤total * ws[k]∧total * ws[k]≤1000000000000000000)∧(total * ws[k]).tdiv (sumI ws) = total * ws[k] / sumI ws∧(total * ws[k]).tmod (sumI ws) = total * ws[k] % sumI ws∧(0≤total * ws[k] / sumI ws∧total * ws[k] / sumI ws≤1000000000):=by
 obtain ⟨a,b⟩:=hw _ (List.getElem_mem hk)
 have p0:0≤total * ws[k]:=Int.mul_nonneg h0 a
 have p1:total * ws[k]≤1000000000 * 1000000000:=Int.mul_le_mul h1 b a (by omega)
 have hle:ws[k]≤sumI ws:=sumI_mem (fun x hx=>(hw x hx).1) (List.getElem_mem hk)
 refine ⟨by omega,Int.tdiv_eq_ediv_of_nonneg p0,Int.tmod_eq_emod_of_nonneg p0,Int.ediv_nonneg p0 (by omega),?_⟩
 refine Int.le_trans (Int.ediv_le_of_le_mul hs ?_) h1
 exact Int.mul_le_mul_of_nonneg_left hle h0
theorem alcP_at {total:Int} {ws:List Int} {k:Nat} (hk:k < ws.length) : (alcP total ws).getD k 0 = total * ws[k] / sumI ws:=by
 rw [List.getD_eq_getElem?_getD,alcP,List.getElem?_map,List.getElem?_eq_getElem hk]; rfl
theorem alcR_at {total:Int} {ws:List Int} {k:Nat} (hk:k < ws.length) : (alcR total ws).getD k 0 = total * ws[k] % sumI ws:=by
 rw [List.getD_eq_getElem?_getD,alcR,List.getElem?_map,List.getElem?_eq_getElem hk]; rfl
def upto (l:List Int) (n k : Nat) : List Int:=l.take k++List.replicate (n - k) 0
theorem upto_zero (l:List Int) (n:Nat) : upto l n 0 = List.replicate n 0:=by simp [upto]
theorem upto_all (l:List Int) (n:Nat) (h:l.length = n) : upto l n n = l:=by simp [upto,← h]
theorem upto_len (l:List Int) (n k : Nat) (h:l.length = n) (hk:k≤n) : (upto l n k).length = n:=by simp [upto]; omega
theorem upto_set (l:List Int) (n k : Nat) (h:l.length = n) (hk:k < n) : (upto l n k).set k (l.getD k 0) = upto l n (k+1):=by
 have hk':k < l.length:=by omega
 have e1:List.replicate (n - k) (0:Int) = 0 :: List.replicate (n - (k+1)) 0:=by
  rw [show n - k = (n - (k+1))+1 by omega]; rfl
 have e2:l.getD k 0 = l[k]:=by rw [List.getD_eq_getElem?_getD,List.getElem?_eq_getElem hk']; rfl
 unfold upto
 rw [e1,e2,List.take_succ_eq_append_getElem hk',List.set_append_right _ _ (by simp; omega),show k - (l.take k).length = 0 by simp; omega,List.set_cons_zero,List.append_assoc]
 rfl
theorem upto_at (l:List Int) (n k : Nat) (hk:k < n) (hl:l.length = n) : (upto l n (k+1)).getD k 0 = l.getD k 0:=by
 have hk':k < l.length:=by omega
 unfold upto
 rw [List.getD_eq_getElem?_getD,List.getElem?_append_left (by simp; omega),List.getElem?_take,if_pos (by omega),List.getD_eq_getElem?_getD]
theorem sumI_takeD (l:List Int) (k:Nat) (h:k < l.length) : sumI (l.take (k+1)) = sumI (l.take k)+l.getD k 0:=by
 rw [sumI_take l k h,List.getD_eq_getElem?_getD,List.getElem?_eq_getElem h]; rfl
structure AlcAt (total:Int) (ws:List Int) (m:Nat) (P R : List Int) : Prop where
 eq:alcGo m P R = allocN total ws
 pos:∀ x ∈ P,0≤x
 sum:sumI P+m = total
 lp:P.length = ws.length
 lr:R.length = ws.length
theorem AlcAt.next {total:Int} {ws:List Int} {m:Nat} {P R : List Int} (h:AlcAt total ws (m+1) P R) (hn:0 < ws.length) : AlcAt total ws m (P.set (bestI R) (P.getD (bestI R) 0+1)) (R.set (bestI R) (-1)):=by
 have hb:=bestI_lt (r:=R) (by rw [h.lr]; exact hn)
 have h1:=h.lp
 have h2:=h.lr
 refine ⟨by have:=h.eq; rwa [alcGo] at this,fun x hx=>?_,?_,by simpa using h1,by simpa using h2⟩
 ·
  rcases List.mem_or_eq_of_mem_set hx with e | e
  ·
   exact h.pos x e
  ·
   have:=getD_nonneg h.pos (bestI R); omega
 ·
  rw [sumI_set _ _ _ (by omega)]
  have:=h.sum
  omega
end Go.Proofs.YtlhkojcmcmkmaaaGreat
namespace Go.Proofs.YtlhkojcmcmkmaaaGreat
open Go.RowKit
theorem SliceOf.take {α:Type} {enc:α→List Value} {k:Nat} {w:World} {B:Nat} {A:Option Addr} {xs:List α} (h:SliceOf enc k w B A xs) (i:Nat) : SliceOf enc k w B A (xs.take i):=fun hne=>by
 have hx:xs ≠ []:=by intro e; subst e; simp at hne
 obtain ⟨b,off,e,hb,hc⟩:=h hx
 refine ⟨b,off,e,hb,fun j x hj l u hl=>hc j x ?_ l u hl⟩
 rw [List.getElem?_take] at hj
 split at hj
 ·
  exact hj
 ·
  cases hj
theorem run_append_list {P:Program} {α:Type} {enc:α→List Value} {k:Nat} {e:TypeId} {W:World} {base B : Nat} {v:Value} {xs ys : List α} {A:Option Addr} {m:Nat} (t ty : TypeId) (c bytes : Nat) (z:Value)
  (hinfo:(P.info? e).map (fun i=>(i.zero,i.size,i.bytes)) = some (some z,k,bytes)) (ht:P.underlying t = some (.slice e))
  (hown:Own enc k e W base v xs) (hys:SliceOf enc k W B A ys) (hk:∀ x,(enc x).length = k) (hk0:0 < k) (hzs:z.cells.size = k) (h1:∀ y,∀ u ∈ enc y,u.oneCell' = true)
  (hlen:xs.length+ys.length≤4294967296) (hby:bytes≤1024) (hbase:base≤W.heap.size) (hm:m = ys.length) :
  ∃ v' w',(Builtin.append_ #[t,t] ty #[v,.slice A m c]).run P W = .ok v' w'∧Own enc k e w' base v' (xs++ys)∧W.grownBy w' v.ownBlock:=by
 subst hm
 obtain ⟨i,hi,hz,hsz,hb⟩:=info_parts hinfo
 have hl:(ys.flatMap enc).length = ys.length * k:=by
  clear hys hlen
  induction ys with
  | nil=>simp
  | cons y ys ih=>rw [List.flatMap_cons,List.length_append,ih,hk,List.length_cons,Nat.succ_mul]; omega
 have hbb:(xs.length+ys.length) * bytes≤140737488355328:=by
  have:(xs.length+ys.length) * bytes≤4294967296 * 1024:=Nat.mul_le_mul hlen hby
  omega
 have h1':∀ u ∈ ys.flatMap enc,u.oneCell' = true:=by
  intro u hu
  obtain ⟨y,_,hy⟩:=List.mem_flatMap.1 hu
  exact h1 y u hy
 rcases A with _ | ad
 ·
  have hy0:ys = []:=by
   rcases ys with _ | ⟨y,ys⟩
   ·
    rfl
   ·
    obtain ⟨b,off,hA,_⟩:=hys (by simp)
    cases hA
  subst hy0
  exact ⟨v,W,run_append_of_nil (P:=P) W base t ty e i k ht hi v xs.length (xs.flatMap enc) hown c,by simpa using hown,only_refl _ _⟩
 ·
  have hcells:∀ j u,(ys.flatMap enc)[j]? = some u→W.cell? (ad.add j) = some u:=by
   intro j u hu
   have hj:j < ys.length * k:=by rw [← hl]; exact (List.getElem?_eq_some_iff.1 hu).1
   have hne:ys ≠ []:=by intro e; subst e; simp at hj
   obtain ⟨b,off,hA',hb,hc⟩:=hys hne
   injection hA' with hA
   subst hA
   have hadd:(⟨b,off,none⟩ : Addr).add j = ⟨b,off+j,none⟩:=by unfold Addr.add; split <;> simp_all
   rw [hadd]
   have hi':j / k < ys.length:=Nat.div_lt_of_lt_mul (by rw [Nat.mul_comm]; exact hj)
   have hmod:j % k < k:=Nat.mod_lt _ hk0
   have hy:=List.getElem?_eq_getElem hi'
   have he : (enc ys[j / k])[j % k]? = some ((enc ys[j / k])[j % k]'(by rw [hk]; exact hmod)) := List.getElem?_eq_getElem _
   have h2:=flatMap_at hk ys (j / k) (j % k) _ _ hy he
   have h3:=hc _ _ hy _ _ he
   have h4:j / k * k+j % k = j:=by rw [Nat.mul_comm]; exact Nat.div_add_mod j k
   rw [h4,hu] at h2
   rw [Nat.add_assoc,h4] at h3
   rw [h3,← h2]
  obtain ⟨v',w',hr,h2,h3,_⟩:=run_append_own_at (P:=P) W base t ty e i z k bytes ht hi hz hsz hb hzs hk0 v xs.length (xs.flatMap enc) hown ad ys.length c (ys.flatMap enc) hl hcells h1' (by unfold maxLen; omega) hbb hbase
  refine ⟨v',w',hr,?_,h3⟩
  unfold Own
  rw [List.length_append,List.flatMap_append]
  exact h2
end Go.Proofs.YtlhkojcmcmkmaaaGreat
namespace Go.Proofs.YtlhkojcmcmkmaaaGreat
open Go.RowKit
section
variable {P:Program} {ops:Array Oper} {md:Region.Mode} {C:World→Prop}
def YieldsB (P:Program) (ops:Array Oper) (C:World→Prop) (o:Oper) (v:Value) (a:Act) : Prop :=
 (Region.wanted o (yielded ops a.tmps) = true∧∀ w,C w→o.quietAt P a (fun w''=>C w''∧Below w.heap.size w w'') w v) ∨
 (Region.wanted o (yielded ops a.tmps) = false∧v = undef)
theorem YieldsB.of_same {o:Oper} {v:Value} {a a' : Act} (hy:YieldsB P ops C o v a) (he:execOp a'.eval o = execOp a.eval o)
  (hw:Region.wanted o (yielded ops a'.tmps) = Region.wanted o (yielded ops a.tmps)) : YieldsB P ops C o v a':=by
 unfold YieldsB Oper.quietAt at *
 rw [he,hw]
 exact hy
def plainUpon (o:Oper) (a:Act) (K:Act→World→Prop) : Result Next→Prop
 | .ok (.value v) w'=>K (a.put o.dst v) w'
 | .ok .skip w'=>K (a.put o.dst undef) w'
 | _=>False
def mOp (P:Program) (ops:Array Oper) (i:Nat) (K:Act→World→Prop) (a:Act) (w:World) : Prop :=
 match ops[i]? with
 | none=>K a w
 | some o=>if Region.wanted o (yielded ops a.tmps) then plainUpon o a K ((execOp a.eval o).run P w) else K (a.put o.dst undef) w
def stepM (P:Program) (ops:Array Oper) (C:World→Prop) (i:Nat) (K:Act→World→Prop) (a:Act) (w:World) : Prop :=
 (∃ o v,ops[i]? = some o∧YieldsB P ops C o v a∧∀ w'',C w''→Below w.heap.size w w''→K (a.put o.dst v) w'') ∨ mOp P ops i K a w
theorem stepM_mono {i:Nat} {a:Act} {w:World} {K K' : Act→World→Prop} (h : ∀ a w,K a w→K' a w) (hh:stepM P ops C i K a w) : stepM P ops C i K' a w:=by
 rcases hh with ⟨o,v,h1,h2,h3⟩ | hh
 ·
  exact .inl ⟨o,v,h1,h2,fun w'' c b=>h _ _ (h3 w'' c b)⟩
 ·
  right
  unfold mOp at *
  split
  ·
   rename_i ho; simp only [ho] at hh; exact h _ _ hh
  ·
   rename_i o ho
   simp only [ho] at hh
   split
   ·
    rename_i hw
    simp only [hw,if_true] at hh
    generalize (execOp a.eval o).run P w = r at *
    unfold plainUpon at *
    split
    ·
     exact h _ _ hh
    ·
     exact h _ _ hh
    ·
     rename_i q1 q2; split at hh
     ·
      exact absurd rfl (q1 _ _)
     ·
      exact absurd rfl (q2 _)
     ·
      exact hh
   ·
    rename_i hw; simp only [hw] at hh; exact h _ _ hh
theorem wpOp_of_stepM {i:Nat} {a:Act} {w:World} {K:Act→World→Prop} {Q:Exit→Act→World→Prop} (hC:C w) (hh:stepM P ops C i K a w) : wpOp P ops Q i K a w:=by
 rcases hh with ⟨o,v,h1,h2,h3⟩ | hh
 ·
  unfold wpOp
  simp only [h1]
  rcases h2 with ⟨hw,hy⟩ | ⟨hw,rfl⟩
  ·
   simp only [hw,if_true]
   left
   have h4:=hy w hC
   unfold Oper.quietAt at h4
   unfold Oper.wp
   generalize (execOp a.eval o).run P w = r at *
   cases r with
   | ok n w' =>
    cases n <;> simp only [Oper.quietUpon] at h4 <;> simp only [Oper.upon]
    case value u =>
     obtain ⟨e1,e2⟩:=h4
     rw [e1,e2]
     exact h3 _ hC (Below.refl _ _)
    case skip =>
     obtain ⟨e1,e2⟩:=h4
     rw [e1,← e2]
     exact h3 _ hC (Below.refl _ _)
    case enter f args =>
     obtain ⟨e1,hc⟩:=h4
     rw [e1]
     exact hc.mono fun e w'' ⟨he,hw''⟩=>by subst he; exact h3 _ hw''.1 hw''.2
   | halt x w'=>simp only [Oper.quietUpon] at h4
  ·
   simp only [hw,Bool.false_eq_true,if_false]
   exact h3 _ hC (Below.refl _ _)
 ·
  unfold mOp at hh
  unfold wpOp
  split
  ·
   rename_i ho; simp only [ho] at hh; exact hh
  ·
   rename_i o ho
   simp only [ho] at hh
   split
   ·
    rename_i hw
    simp only [hw,if_true] at hh
    left
    unfold Oper.wp
    generalize (execOp a.eval o).run P w = r at *
    unfold plainUpon at hh
    split at hh
    ·
     exact hh
    ·
     exact hh
    ·
     exact absurd hh id
   ·
    rename_i hw; simp only [hw] at hh; exact hh
theorem stepM_put {j:Nat} {oi oj : Oper} {v:Value} (hj:ops[j]? = some oj) (hap:oi.apart ops oj = true)
  (hsi:∀ cs b,oi.op ≠ .select cs b) (hsj:∀ cs b,oj.op ≠ .select cs b) {K:Act→World→Prop} {a:Act} {w:World}
  (hy:YieldsB P ops C oi v a) (h:stepM P ops C j K (a.put oi.dst v) w) :
  stepM P ops C j (fun a' w'=>YieldsB P ops C oi v a'∧K (a'.put oi.dst v) w') a w:=by
 obtain ⟨h1,h2,h3⟩:=Oper.apart_spec hap
 have keep:∀ u,YieldsB P ops C oi v (a.put oj.dst u):=fun u=>hy.of_same (execOp_put oi hsi a oj.dst u h3) (wanted_put oi a oj.dst u h3)
 rcases h with ⟨o,u,g1,g2,g3⟩ | h
 ·
  rw [hj] at g1
  injection g1 with g1
  subst g1
  refine .inl ⟨oj,u,hj,g2.of_same (execOp_put oj hsj a oi.dst v h1).symm (wanted_put oj a oi.dst v h1).symm,fun w'' c b=>⟨keep u,?_⟩⟩
  rw [← Act.put_comm a v u h2]
  exact g3 w'' c b
 ·
  right
  unfold mOp at *
  simp only [hj] at *
  rw [wanted_put oj a oi.dst v h1] at h
  split
  ·
   rename_i hw
   simp only [hw,if_true] at h
   rw [execOp_put oj hsj a oi.dst v h1] at h
   generalize (execOp a.eval oj).run P w = r at *
   unfold plainUpon at *
   split
   ·
    refine ⟨keep _,?_⟩
    rw [← Act.put_comm a v _ h2]; exact h
   ·
    refine ⟨keep _,?_⟩
    rw [← Act.put_comm a v _ h2]; exact h
   ·
    rename_i q1 q2; split at h
    ·
     exact absurd rfl (q1 _ _)
    ·
     exact absurd rfl (q2 _)
    ·
     exact h
  ·
   rename_i hw
   simp only [hw] at h
   exact ⟨keep _,by rw [← Act.put_comm a v undef h2]; exact h⟩
def wpMix (P:Program) (md:Region.Mode) (ops:Array Oper) (C:World→Prop) (Q:Act→World→Prop) : Nat→Array Bool→Act→World→Prop
 | 0,listed,a,w=>∀ w',C w'→Below w.heap.size w w'→Region.ready md ops listed = []∧Q a w'
 | fuel+1,listed,a,w=>∀ w',C w'→Below w.heap.size w w' →
  (Region.ready md ops listed = []→Q a w') ∧
  ∀ i ∈ Region.ready md ops listed,stepM P ops C i (fun a1 w1=>C w1∧wpMix P md ops C Q fuel (listed.setIfInBounds i true) a1 w1) a w'
theorem wpMix_mono {Q:Act→World→Prop} : ∀ {n:Nat} {listed:Array Bool} {a:Act} {w w2 : World},wpMix P md ops C Q n listed a w→Below w.heap.size w w2→wpMix P md ops C Q n listed a w2
 | 0,_,_,_,_,h,hb=>fun w' c b=>h w' c (hb.trans (b.mono hb.size))
 | _+1,_,_,_,_,h,hb=>fun w' c b=>h w' c (hb.trans (b.mono hb.size))
theorem wpAny_of_mix {Q:Act→World→Prop} {Q' : Exit→Act→World→Prop} (hQ : ∀ a w,Q a w→Q' .normal a w) : ∀ (fuel:Nat) (listed:Array Bool) (a:Act) (w:World),C w→wpMix P md ops C Q fuel listed a w→wpAny P md ops Q' fuel listed a w
 | 0,_,_,w,hw,h=>⟨(h w hw (Below.refl _ _)).1,hQ _ _ (h w hw (Below.refl _ _)).2⟩
 | fuel+1,_,_,w,hw,h=>⟨fun h0=>hQ _ _ ((h w hw (Below.refl _ _)).1 h0),fun i hi=>wpOp_of_stepM hw (stepM_mono (fun a' w' h'=>wpAny_of_mix hQ fuel _ a' w' h'.1 h'.2) ((h w hw (Below.refl _ _)).2 i hi))⟩
theorem wpMix_first {Q:Act→World→Prop} {i:Nat} {oi:Oper} {v:Value} (hi:ops[i]? = some oi) (hsel : ∀ (j:Nat) (o:Oper) cs b,ops[j]? = some o→o.op ≠ .select cs b) :
  ∀ (fuel:Nat) (listed:Array Bool) (a:Act) (w:World),
   (∀ j oj,ops[j]? = some oj→j ≠ i→listed.getD j true = false→(∀ e ∈ oj.after,Region.binds md e = true→e.on ≠ i)→oi.apart ops oj = true) →
   i ∈ Region.ready md ops listed→YieldsB P ops C oi v a →
   wpMix P md ops C Q fuel (listed.setIfInBounds i true) (a.put oi.dst v) w→wpMix P md ops C Q (fuel+1) listed a w:=by
 intro fuel
 induction fuel with
 | zero =>
  intro listed a w _ hr hy H w' hC hb
  refine ⟨fun h=>(by rw [h] at hr; cases hr),fun j hj=>?_⟩
  by_cases hji:j = i
  ·
   subst hji
   exact .inl ⟨oi,v,hi,hy,fun w'' c b=>⟨c,wpMix_mono H (hb.trans (b.mono hb.size))⟩⟩
  ·
   have:=ready_mono hj hji
   rw [(H w' hC hb).1] at this
   cases this
 | succ fuel ih =>
  intro listed a w hfree hr hy H w' hC hb
  refine ⟨fun h=>(by rw [h] at hr; cases hr),fun j hj=>?_⟩
  by_cases hji:j = i
  ·
   subst hji
   exact .inl ⟨oi,v,hi,hy,fun w'' c b=>⟨c,wpMix_mono H (hb.trans (b.mono hb.size))⟩⟩
  ·
   have h1:=(H w' hC hb).2 j (ready_mono hj hji)
   obtain ⟨hjun,oj,hoj,hall⟩:=mem_ready.1 hj
   have hnot:∀ e ∈ oj.after,Region.binds md e = true→e.on ≠ i:=fun e he hb heq=>by
    have h1:=hall e he hb
    have h0:=(mem_ready.1 hr).1
    rw [heq] at h1
    rcases Nat.lt_or_ge i listed.size with h' | h'
    ·
     simp [h'] at h0 h1; rw [h0] at h1; cases h1
    ·
     simp [Array.getElem?_eq_none h'] at h1
   have h2:=stepM_put hoj (hfree j oj hoj hji hjun hnot) (fun cs b=>hsel i oi cs b hi) (fun cs b=>hsel j oj cs b hoj) hy h1
   have hfree':∀ k ok,ops[k]? = some ok→k ≠ i→(listed.setIfInBounds j true).getD k true = false →
     (∀ e ∈ ok.after,Region.binds md e = true→e.on ≠ i)→oi.apart ops ok = true:=fun k ok hk hki hun hno=>by
    refine hfree k ok hk hki ?_ hno
    by_cases hjk:j = k
    ·
     subst hjk; exact hjun
    ·
     rw [getD_set_ne true hjk] at hun; exact hun
   refine stepM_mono (fun a' w1 h3=>⟨h3.2.1,ih (listed.setIfInBounds j true) a' w1 hfree' (ready_mono hr (Ne.symm hji)) h3.1 ?_⟩) h2
   rw [Array.setIfInBounds_comm _ _ hji]
   exact h3.2.2
def LexV (P:Program) (ops:Array Oper) (C:World→Prop) (aE:Act) (val:Oper→Value) : List Oper→Act→Prop
 | [],a=>a = aE
 | o :: r,a=>YieldsB P ops C o (val o) a∧LexV P ops C aE val r (a.put o.dst (val o))
end
def Stable (F:World→Prop) : Prop:=∀ w w',F w→Below w.heap.size w w'→F w'
structure BwF (W:World) (F:World→Prop) where
 w':World
 h:Below W.heap.size W w'
 f:F w'
section
variable {P:Program} {W:World} {F:World→Prop}
theorem BwF.cell {a:Addr} {v:Value} (hb:a.block < W.heap.size) (h:W.cell? a = some v) (p:BwF W F) : p.w'.cell? a = some v:=(p.h.cell hb).trans h
theorem BwF.call {f:FuncId} {args:Array Value} {v:Value} (hF:Stable F) (p:BwF W F) (h:Calls P f args p.w' fun e w'=>e = .returned v∧Below p.w'.heap.size p.w' w') :
  Calls P f args p.w' fun e w''=>e = .returned v∧∃ q:BwF W F,w'' = q.w' :=
 h.mono fun _ w'' ⟨he,hb⟩=>⟨he,⟨w'',p.h.trans (hb.mono p.h.size),hF _ _ p.f hb⟩,rfl⟩
end
def valAt (aE:Act) (o:Oper) : Value:=(o.dst.bind (aE.tmps[·]?)).getD undef
def dstsOk (n:Nat) : List Oper→Bool
 | []=>true
 | o :: r=>(match o.dst with | some d=>decide (d < n) && r.all (fun o'=>o'.dst != some d) | none=>false) && dstsOk n r
section
variable {P:Program} {ops:Array Oper}
theorem put_at {a:Act} {d e : Nat} {v:Value} (h:e ≠ d) : (a.put (some e) v).tmps[d]? = a.tmps[d]?:=by
 show (a.tmps.setIfInBounds e v)[d]? = _
 rw [Array.getElem?_setIfInBounds_ne h]
theorem put_self {a:Act} {d:Nat} {v:Value} (h:d < a.tmps.size) : (a.put (some d) v).tmps[d]? = some v:=by
 show (a.tmps.setIfInBounds d v)[d]? = _
 rw [Array.getElem?_setIfInBounds_self_of_lt h]
theorem put_size (a:Act) (d:Option Nat) (v:Value) : (a.put d v).tmps.size = a.tmps.size:=by
 cases d with
 | none=>rfl
 | some d=>show (a.tmps.setIfInBounds d v).size = _; simp
theorem quiet_kept {C:World→Prop} {aE:Act} {d:Nat} : ∀ (l:List Oper) (a:Act),l.all (fun o'=>o'.dst != some d) = true→(∀ o ∈ l,o.dst ≠ none)→wpQuiet P ops C (fun a'=>a' = aE) l a→aE.tmps[d]? = a.tmps[d]?
 | [],a,_,_,h=>by rw [show a = aE from h]
 | o :: l,a,hd,hn,h=>by
  simp only [List.all_cons,Bool.and_eq_true,bne_iff_ne,ne_eq] at hd
  obtain ⟨e,he⟩:=Option.ne_none_iff_exists'.1 (hn o (by simp))
  have hed:e ≠ d:=fun x=>hd.1 (by rw [he,x])
  unfold wpQuiet at h
  split at h
  ·
   obtain ⟨v,_,h2⟩:=h
   rw [quiet_kept l _ hd.2 (fun o ho=>hn o (by simp [ho])) h2,he,put_at hed]
  ·
   rw [quiet_kept l _ hd.2 (fun o ho=>hn o (by simp [ho])) h,he,put_at hed]
theorem dstsOk_some {n:Nat} : ∀ {l:List Oper},dstsOk n l = true→∀ o ∈ l,o.dst ≠ none
 | [],_,o,ho=>by cases ho
 | x :: r,h,o,ho=>by
  simp only [dstsOk,Bool.and_eq_true] at h
  rcases List.mem_cons.1 ho with e | e
  ·
   subst e
   intro hh
   rw [hh] at h
   cases h.1
  ·
   exact dstsOk_some h.2 o e
theorem mix_step {md:Region.Mode} {C:World→Prop} {Q:Act→World→Prop} {n:Nat} {listed:Array Bool} {a:Act} {w:World} (rs:List Nat) (hr:Region.ready md ops listed = rs) (hne:rs ≠ [])
  (h:∀ w',C w'→Below w.heap.size w w'→∀ i ∈ rs,stepM P ops C i (fun a1 w1=>C w1∧wpMix P md ops C Q n (listed.setIfInBounds i true) a1 w1) a w') : wpMix P md ops C Q (n+1) listed a w:=by
 subst hr
 exact fun w' c b=>⟨fun e=>absurd e hne,h w' c b⟩
theorem mix_end {md:Region.Mode} {C:World→Prop} {Q:Act→World→Prop} {listed:Array Bool} {a:Act} {w:World} (hr:Region.ready md ops listed = []) (h : ∀ w',C w'→Below w.heap.size w w'→Q a w') : wpMix P md ops C Q 0 listed a w :=
 fun w' c b=>⟨hr,h w' c b⟩
theorem mix_op {C:World→Prop} {i:Nat} {o:Oper} {K:Act→World→Prop} {a:Act} {w:World} (ho:ops[i]? = some o) (hw:Region.wanted o (yielded ops a.tmps) = true) (h:plainUpon o a K ((execOp a.eval o).run P w)) : stepM P ops C i K a w:=by
 right
 unfold mOp
 simp only [ho,hw,if_true]
 exact h
theorem mix_val {C:World→Prop} {i:Nat} {o:Oper} {K:Act→World→Prop} {a:Act} {w:World} (v:Value) (w1:World) (ho:ops[i]? = some o) (hw:Region.wanted o (yielded ops a.tmps) = true) (hrun : (execOp a.eval o).run P w = .ok (.value v) w1) (h:K (a.put o.dst v) w1) : stepM P ops C i K a w :=
 mix_op ho hw (by rw [hrun]; exact h)
theorem mix_skip {C:World→Prop} {i:Nat} {o:Oper} {K:Act→World→Prop} {a:Act} {w:World} (w1:World) (ho:ops[i]? = some o) (hw:Region.wanted o (yielded ops a.tmps) = true) (hrun : (execOp a.eval o).run P w = .ok .skip w1) (h:K (a.put o.dst undef) w1) : stepM P ops C i K a w :=
 mix_op ho hw (by rw [hrun]; exact h)
end
end Go.Proofs.YtlhkojcmcmkmaaaGreat
namespace Go.Proofs.YtlhkojcmcmkmaaaGreat
open Go.RowKit
end Go.Proofs.YtlhkojcmcmkmaaaGreat
namespace Go.Proofs.YtlhkojcmcmkmaaaGreat
open Go.RowKit
theorem row_set {w:World} {base g n cap : Nat} {e:TypeId} {k:Nat} {L:List Value} (h:w.ownsRow base e k (.slice (some ⟨g,0,none⟩) n cap) n L) (i:Nat) (u:Value) :
  (w.setCell ⟨g,i,none⟩ u).ownsRow base e k (.slice (some ⟨g,0,none⟩) n cap) n (L.set i u):=by
 obtain ⟨h1,h2⟩:=h
 refine ⟨by simpa using h1,?_⟩
 rcases h2 with ⟨hv,_⟩ | ⟨g',cap',cur,hv,hb,hg,hn,hm,hs,ht⟩
 ·
  cases hv
 ·
  injection hv with e1 e2 e3
  injection e1 with e1
  injection e1 with e1 _
  subst e1 e3
  refine .inr ⟨g,cap,cur.setIfInBounds i u,rfl,hb,?_,hn,hm,by simpa using hs,?_⟩
  ·
   simp [World.setCell,Array.getElem?_modify,hg]
  ·
   rw [Array.toList_setIfInBounds,List.take_set,ht]
theorem Own.some_ {α:Type} {enc:α→List Value} {k:Nat} {e:TypeId} {w:World} {base:Nat} {v:Value} {ys:List α} (h:Own enc k e w base v ys) (hne:0 < ys.length) : ∃ g cap cur,v = .slice (some ⟨g,0,none⟩) ys.length cap∧base≤g∧Blk w g e cur∧ys.length≤cap∧cap≤maxLen:=by
 rcases h.2 with ⟨_,h0⟩ | ⟨g,cap,cur,rfl,hb,hg,hn,hm,_⟩
 ·
  omega
 ·
  exact ⟨g,cap,cur,rfl,hb,hg,hn,hm⟩
end Go.Proofs.YtlhkojcmcmkmaaaGreat
namespace Go.Proofs.YtlhkojcmcmkmaaaGreat
open Go.RowKit
theorem made3 (n:Nat) : (madeCells #[Value.int .i64 0,.int .i64 0,.int .i64 0] (n * 3)).toList = (List.replicate n zLv).flatMap encLv:=by
 have e:(List.replicate n zLv).flatMap encLv = List.replicate (n * 3) (Value.int .i64 0):=by
  induction n with
  | zero=>rfl
  | succ n ih=>rw [List.replicate_succ,List.flatMap_cons,ih,show (n+1) * 3 = n * 3+1+1+1 by omega,List.replicate_succ,List.replicate_succ,List.replicate_succ]; rfl
 rw [e,List.eq_replicate_iff]
 refine ⟨by simp [madeCells],fun b hb=>?_⟩
 simp only [madeCells] at hb
 simp at hb
 obtain ⟨a,_,rfl⟩:=hb
 rcases (show a % 3 = 0 ∨ a % 3 = 1 ∨ a % 3 = 2 by omega) with h | h | h <;> simp [h]
theorem make_levies (n:Nat) (hn:n≤1000) (w:World) : (Instr.makeSlice 138 (.int .i64 (n:Int)) (.int .i64 (n:Int))).run Tryz.prog w = .ok (.slice (some ⟨w.heap.size,0,none⟩) n n) (w.alloc (.cells ((List.replicate n zLv).flatMap encLv).toArray 142)):=by
 obtain ⟨i,hi,hz,hs,hb⟩:=info_parts infoLv
 have hr:=run_make (P:=Tryz.prog) w 138 142 i _ Tryz.underlying138 hi hz .i64 .i64 (n:Int) (n:Int) (by omega) (Int.le_refl _) (by rw [hb]; omega) (by omega)
 simp only [Int.toNat_natCast,hs] at hr
 rw [hr,← made3]
 rfl
end Go.Proofs.YtlhkojcmcmkmaaaGreat
namespace Go.Proofs.YtlhkojcmcmkmaaaGreat
open Go.RowKit
theorem sumsJ_take (n:Nat) (es:List (List Int × Int)) (k:Nat) (h:k < es.length) : sumsJ n (es.take (k+1)) = addL (sumsJ n (es.take k)) (es[k].1++[es[k].2]):=by
 rw [List.take_succ_eq_append_getElem h,sumsJ,List.foldl_append]; rfl
theorem addL_getD (a b : List Int) (i:Nat) (h1:i < a.length) (h2:i < b.length) : (addL a b).getD i 0 = a.getD i 0+b.getD i 0:=by
 simp only [addL,List.getD_eq_getElem?_getD,List.getElem?_zipWith,List.getElem?_eq_getElem h1,List.getElem?_eq_getElem h2]
 rfl
theorem EmpsOk.take {n:Nat} {es:List (List Int × Int)} (h:EmpsOk n es) (k:Nat) : (sumsJ n (es.take k)).length = n+1∧∀ x ∈ sumsJ n (es.take k),0≤x :=
 sumsJ_facts (es.take k) (fun e he=>h.lens e (List.mem_of_mem_take he)) (fun e he=>(h.base e (List.mem_of_mem_take he)).1) (fun e he x hx=>(h.earlier e (List.mem_of_mem_take he) x hx).1) _ (by simp) (by intro x hx; rw [List.eq_of_mem_replicate hx]; omega)
theorem EmpsOk.sums_hi {n:Nat} {es:List (List Int × Int)} (h:EmpsOk n es) : ∀ k,k≤es.length→∀ i,i < n+1→(sumsJ n (es.take k)).getD i 0≤k * 1000000000:=by
 intro k
 induction k with
 | zero =>
  intro _ i hi
  have:(sumsJ n (es.take 0)).getD i 0 = 0:=by
   simp only [List.take_zero,sumsJ,List.foldl_nil,List.getD_eq_getElem?_getD,List.getElem?_replicate]
   split <;> rfl
  omega
 | succ k ih =>
  intro hk i hi
  have h1:=ih (by omega) i hi
  have hl:=(h.take k).1
  have hm:=List.getElem_mem (show k < es.length by omega)
  have he:=h.lens _ hm
  rw [sumsJ_take n es k (by omega),addL_getD _ _ _ (by omega) (by simp; omega)]
  have h2:(es[k].1++[es[k].2]).getD i 0≤1000000000:=by
   rw [List.getD_eq_getElem?_getD]
   cases e:(es[k].1++[es[k].2])[i]? with
   | none=>simp
   | some v =>
    rcases List.mem_append.1 (List.mem_of_getElem? e) with g | g
    ·
     exact (h.earlier _ hm _ g).2
    ·
     simp at g; subst g; exact (h.base _ hm).2
  rw [show ((k+1:Nat) : Int) * 1000000000 = k * 1000000000+1000000000 by omega]
  omega
def rowJ (S x : List Int) (j:Nat) (i:Nat) : Value:=.int .i64 (S.getD i 0+if i < j then x.getD i 0 else 0)
def jointL (s:SchT) (n:Nat) (es:List (List Int × Int)) : List LevyT:=if overJ (jointV s n es) then [] else jointR s n es
def jointE (s:SchT) (n:Nat) (es:List (List Int × Int)) : Int:=if overJ (jointV s n es) then 4 else 0
theorem rowJ_start {w:World} {g:Nat} {S x : List Int} {m:Nat} (h:RowI w g S) (hm:S.length = m) : w.rowIs g 3 m (rowJ S x 0):=by
 subst hm
 exact World.rowIs.congr h (fun i _=>by simp [rowJ])
theorem rowJ_next {w:World} {g m j : Nat} {S x : List Int} (h:w.rowIs g 3 m (rowJ S x j)) : (w.setCell ⟨g,j,none⟩ (.int .i64 (S.getD j 0+x.getD j 0))).rowIs g 3 m (rowJ S x (j+1)):=by
 refine (h.set j _).congr fun i _=>?_
 by_cases e:i = j
 ·
  subst e; rw [if_pos rfl]; simp [rowJ]
 ·
  rw [if_neg e]
  unfold rowJ
  by_cases h1:i < j
  ·
   rw [if_pos h1,if_pos (by omega)]
  ·
   rw [if_neg h1,if_neg (by omega)]
theorem rowJ_end {w:World} {g n : Nat} {S x : List Int} {b:Int} (h:w.rowIs g 3 (n+1) (rowJ S x n)) (hS:S.length = n+1) (hx:x.length = n) : RowI (w.setCell ⟨g,n,none⟩ (.int .i64 (S.getD n 0+b))) g (addL S (x++[b])):=by
 unfold RowI
 have hl:(addL S (x++[b])).length = n+1:=by rw [addL_len]; simp; omega
 rw [hl]
 refine (h.set n _).congr fun i hi=>?_
 rw [addL_getD _ _ _ (by omega) (by simp; omega)]
 by_cases e:i = n
 ·
  subst e
  rw [if_pos rfl]
  have:(x++[b]).getD i 0 = b:=by rw [List.getD_eq_getElem?_getD,List.getElem?_append_right (by omega)]; simp [hx]
  rw [this]
 ·
  rw [if_neg e]
  have:(x++[b]).getD i 0 = x.getD i 0:=by rw [List.getD_eq_getElem?_getD,List.getElem?_append_left (by omega),List.getD_eq_getElem?_getD]
  rw [this,rowJ,if_pos (by omega)]
theorem mapv_get {es : List EmpC} {k : Nat} (h : k < es.length) : (es.map EmpC.v)[k]'(by simpa using h) = (es[k].l, es[k].base) := by simp [EmpC.v]
end Go.Proofs.YtlhkojcmcmkmaaaGreat
