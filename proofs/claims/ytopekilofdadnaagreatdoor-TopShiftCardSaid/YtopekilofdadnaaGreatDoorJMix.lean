/- Joined texts: Mix. Conditions: as stated. -/
import Derived.Deep.RegionHeld3
import Derived.Test.YtopekilofdadnaaGreatDoorJTvN
namespace Go.Proofs.YtopekilofdadnaaGreatDoor
open Go.RowKit
section
variable {P:Program} {ops:Array Oper} {md:Region.Mode} {C:World→Prop}
def YieldsB (P:Program) (ops:Array Oper) (C:World→Prop) (o:Oper) (v:Value) (a:Act) : Prop :=
 (Region.wanted o (yielded ops a.tmps) = true∧∀ w,C w→o.quietAt P a (fun w''=>C w''∧Below w.heap.size w w'') w v) ∨
 (Region.wanted o (yielded ops a.tmps) = false∧v = undef)
theorem YieldsB.of_same {o:Oper} {v:Value} {a a' : Act} (hy:YieldsB P ops C o v a) (he:execOp a'.eval o = execOp a.eval o)
  (hw:Region.wanted o (yielded ops a'.tmps) = Region.wanted o (yielded ops a.tmps)) : YieldsB P ops C o v a':=by
 unfold YieldsB Oper.quietAt at *
 rw [he,hw]
 exact hy
def plainUpon (o:Oper) (a:Act) (K:Act→World→Prop) : Result Next→Prop
 | .ok (.value v) w'=>K (a.put o.dst v) w'
 | .ok .skip w'=>K (a.put o.dst undef) w'
 | _=>False
def mOp (P:Program) (ops:Array Oper) (i:Nat) (K:Act→World→Prop) (a:Act) (w:World) : Prop :=
 match ops[i]? with
 | none=>K a w
 | some o=>if Region.wanted o (yielded ops a.tmps) then plainUpon o a K ((execOp a.eval o).run P w) else K (a.put o.dst undef) w
def stepM (P:Program) (ops:Array Oper) (C:World→Prop) (i:Nat) (K:Act→World→Prop) (a:Act) (w:World) : Prop :=
 (∃ o v,ops[i]? = some o∧YieldsB P ops C o v a∧∀ w'',C w''→Below w.heap.size w w''→K (a.put o.dst v) w'') ∨ mOp P ops i K a w
theorem stepM_mono {i:Nat} {a:Act} {w:World} {K K' : Act→World→Prop} (h : ∀ a w,K a w→K' a w) (hh:stepM P ops C i K a w) : stepM P ops C i K' a w:=by
 rcases hh with ⟨o,v,h1,h2,h3⟩ | hh
 ·
  exact .inl ⟨o,v,h1,h2,fun w'' c b=>h _ _ (h3 w'' c b)⟩
 ·
  right
  unfold mOp at *
  split
  ·
   rename_i ho; simp only [ho] at hh; exact h _ _ hh
  ·
   rename_i o ho
   simp only [ho] at hh
   split
   ·
    rename_i hw
    simp only [hw,if_true] at hh
    generalize (execOp a.eval o).run P w = r at *
    unfold plainUpon at *
    split
    ·
     exact h _ _ hh
    ·
     exact h _ _ hh
    ·
     rename_i q1 q2; split at hh
     ·
      exact absurd rfl (q1 _ _)
     ·
      exact absurd rfl (q2 _)
     ·
      exact hh
   ·
    rename_i hw; simp only [hw] at hh; exact h _ _ hh
theorem wpOp_of_stepM {i:Nat} {a:Act} {w:World} {K:Act→World→Prop} {Q:Exit→Act→World→Prop} (hC:C w) (hh:stepM P ops C i K a w) : wpOp P ops Q i K a w:=by
 rcases hh with ⟨o,v,h1,h2,h3⟩ | hh
 ·
  unfold wpOp
  simp only [h1]
  rcases h2 with ⟨hw,hy⟩ | ⟨hw,rfl⟩
  ·
   simp only [hw,if_true]
   left
   have h4:=hy w hC
   unfold Oper.quietAt at h4
   unfold Oper.wp
   generalize (execOp a.eval o).run P w = r at *
   cases r with
   | ok n w' =>
    cases n <;> simp only [Oper.quietUpon] at h4 <;> simp only [Oper.upon]
    case value u =>
     obtain ⟨e1,e2⟩:=h4
     rw [e1,e2]
     exact h3 _ hC (Below.refl _ _)
    case skip =>
     obtain ⟨e1,e2⟩:=h4
     rw [e1,← e2]
     exact h3 _ hC (Below.refl _ _)
    case enter f args =>
     obtain ⟨e1,hc⟩:=h4
     rw [e1]
     exact hc.mono fun e w'' ⟨he,hw''⟩=>by subst he; exact h3 _ hw''.1 hw''.2
   | halt x w'=>simp only [Oper.quietUpon] at h4
  ·
   simp only [hw,Bool.false_eq_true,if_false]
   exact h3 _ hC (Below.refl _ _)
 ·
  unfold mOp at hh
  unfold wpOp
  split
  ·
   rename_i ho; simp only [ho] at hh; exact hh
  ·
   rename_i o ho
   simp only [ho] at hh
   split
   ·
    rename_i hw
    simp only [hw,if_true] at hh
    left
    unfold Oper.wp
    generalize (execOp a.eval o).run P w = r at *
    unfold plainUpon at hh
    split at hh
    ·
     exact hh
    ·
     exact hh
    ·
     exact absurd hh id
   ·
    rename_i hw; simp only [hw] at hh; exact hh
theorem stepM_put {j:Nat} {oi oj : Oper} {v:Value} (hj:ops[j]? = some oj) (hap:oi.apart ops oj = true)
  (hsi:∀ cs b,oi.op ≠ .select cs b) (hsj:∀ cs b,oj.op ≠ .select cs b) {K:Act→World→Prop} {a:Act} {w:World}
  (hy:YieldsB P ops C oi v a) (h:stepM P ops C j K (a.put oi.dst v) w) :
  stepM P ops C j (fun a' w'=>YieldsB P ops C oi v a'∧K (a'.put oi.dst v) w') a w:=by
 obtain ⟨h1,h2,h3⟩:=Oper.apart_spec hap
 have keep:∀ u,YieldsB P ops C oi v (a.put oj.dst u):=fun u=>hy.of_same (execOp_put oi hsi a oj.dst u h3) (wanted_put oi a oj.dst u h3)
 rcases h with ⟨o,u,g1,g2,g3⟩ | h
 ·
  rw [hj] at g1
  injection g1 with g1
  subst g1
  refine .inl ⟨oj,u,hj,g2.of_same (execOp_put oj hsj a oi.dst v h1).symm (wanted_put oj a oi.dst v h1).symm,fun w'' c b=>⟨keep u,?_⟩⟩
  rw [← Act.put_comm a v u h2]
  exact g3 w'' c b
 ·
  right
  unfold mOp at *
  simp only [hj] at *
  rw [wanted_put oj a oi.dst v h1] at h
  split
  ·
   rename_i hw
   simp only [hw,if_true] at h
   rw [execOp_put oj hsj a oi.dst v h1] at h
   generalize (execOp a.eval oj).run P w = r at *
   unfold plainUpon at *
   split
   ·
    refine ⟨keep _,?_⟩
    rw [← Act.put_comm a v _ h2]; exact h
   ·
    refine ⟨keep _,?_⟩
    rw [← Act.put_comm a v _ h2]; exact h
   ·
    rename_i q1 q2; split at h
    ·
     exact absurd rfl (q1 _ _)
    ·
     exact absurd rfl (q2 _)
    ·
     exact h
  ·
   rename_i hw
   simp only [hw] at h
   exact ⟨keep _,by rw [← Act.put_comm a v undef h2]; exact h⟩
def wpMix (P:Program) (md:Region.Mode) (ops:Array Oper) (C:World→Prop) (Q:Act→World→Prop) : Nat→Array Bool→Act→World→Prop
 | 0,listed,a,w=>∀ w',C w'→Below w.heap.size w w'→Region.ready md ops listed = []∧Q a w'
 | fuel+1,listed,a,w=>∀ w',C w'→Below w.heap.size w w' →
  (Region.ready md ops listed = []→Q a w') ∧
  ∀ i ∈ Region.ready md ops listed,stepM P ops C i (fun a1 w1=>C w1∧wpMix P md ops C Q fuel (listed.setIfInBounds i true) a1 w1) a w'
theorem wpMix_mono {Q:Act→World→Prop} : ∀ {n:Nat} {listed:Array Bool} {a:Act} {w w2 : World},wpMix P md ops C Q n listed a w→Below w.heap.size w w2→wpMix P md ops C Q n listed a w2
 | 0,_,_,_,_,h,hb=>fun w' c b=>h w' c (hb.trans (b.mono hb.size))
 | _+1,_,_,_,_,h,hb=>fun w' c b=>h w' c (hb.trans (b.mono hb.size))
theorem wpAny_of_mix {Q:Act→World→Prop} {Q' : Exit→Act→World→Prop} (hQ : ∀ a w,Q a w→Q' .normal a w) : ∀ (fuel:Nat) (listed:Array Bool) (a:Act) (w:World),C w→wpMix P md ops C Q fuel listed a w→wpAny P md ops Q' fuel listed a w
 | 0,_,_,w,hw,h=>⟨(h w hw (Below.refl _ _)).1,hQ _ _ (h w hw (Below.refl _ _)).2⟩
 | fuel+1,_,_,w,hw,h=>⟨fun h0=>hQ _ _ ((h w hw (Below.refl _ _)).1 h0),fun i hi=>wpOp_of_stepM hw (stepM_mono (fun a' w' h'=>wpAny_of_mix hQ fuel _ a' w' h'.1 h'.2) ((h w hw (Below.refl _ _)).2 i hi))⟩
theorem wpMix_first {Q:Act→World→Prop} {i:Nat} {oi:Oper} {v:Value} (hi:ops[i]? = some oi) (hsel : ∀ (j:Nat) (o:Oper) cs b,ops[j]? = some o→o.op ≠ .select cs b) :
  ∀ (fuel:Nat) (listed:Array Bool) (a:Act) (w:World),
   (∀ j oj,ops[j]? = some oj→j ≠ i→listed.getD j true = false→(∀ e ∈ oj.after,Region.binds md e = true→e.on ≠ i)→oi.apart ops oj = true) →
   i ∈ Region.ready md ops listed→YieldsB P ops C oi v a →
   wpMix P md ops C Q fuel (listed.setIfInBounds i true) (a.put oi.dst v) w→wpMix P md ops C Q (fuel+1) listed a w:=by
 intro fuel
 induction fuel with
 | zero =>
  intro listed a w _ hr hy H w' hC hb
  refine ⟨fun h=>(by rw [h] at hr; cases hr),fun j hj=>?_⟩
  by_cases hji:j = i
  ·
   subst hji
   exact .inl ⟨oi,v,hi,hy,fun w'' c b=>⟨c,wpMix_mono H (hb.trans (b.mono hb.size))⟩⟩
  ·
   have:=ready_mono hj hji
   rw [(H w' hC hb).1] at this
   cases this
 | succ fuel ih =>
  intro listed a w hfree hr hy H w' hC hb
  refine ⟨fun h=>(by rw [h] at hr; cases hr),fun j hj=>?_⟩
  by_cases hji:j = i
  ·
   subst hji
   exact .inl ⟨oi,v,hi,hy,fun w'' c b=>⟨c,wpMix_mono H (hb.trans (b.mono hb.size))⟩⟩
  ·
   have h1:=(H w' hC hb).2 j (ready_mono hj hji)
   obtain ⟨hjun,oj,hoj,hall⟩:=mem_ready.1 hj
   have hnot:∀ e ∈ oj.after,Region.binds md e = true→e.on ≠ i:=fun e he hb heq=>by
    have h1:=hall e he hb
    have h0:=(mem_ready.1 hr).1
    rw [heq] at h1
    rcases Nat.lt_or_ge i listed.size with h' | h'
    ·
     simp [h'] at h0 h1; rw [h0] at h1; cases h1
    ·
     simp [Array.getElem?_eq_none h'] at h1
   have h2:=stepM_put hoj (hfree j oj hoj hji hjun hnot) (fun cs b=>hsel i oi cs b hi) (fun cs b=>hsel j oj cs b hoj) hy h1
   have hfree':∀ k ok,ops[k]? = some ok→k ≠ i→(listed.setIfInBounds j true).getD k true = false →
     (∀ e ∈ ok.after,Region.binds md e = true→e.on ≠ i)→oi.apart ops ok = true:=fun k ok hk hki hun hno=>by
    refine hfree k ok hk hki ?_ hno
    by_cases hjk:j = k
    ·
     subst hjk; exact hjun
    ·
     rw [getD_set_ne true hjk] at hun; exact hun
   refine stepM_mono (fun a' w1 h3=>⟨h3.2.1,ih (listed.setIfInBounds j true) a' w1 hfree' (ready_mono hr (Ne.symm hji)) h3.1 ?_⟩) h2
   rw [Array.setIfInBounds_comm _ _ hji]
   exact h3.2.2
def LexV (P:Program) (ops:Array Oper) (C:World→Prop) (aE:Act) (val:Oper→Value) : List Oper→Act→Prop
 | [],a=>a = aE
 | o :: r,a=>YieldsB P ops C o (val o) a∧LexV P ops C aE val r (a.put o.dst (val o))
end
def Stable (F:World→Prop) : Prop:=∀ w w',F w→Below w.heap.size w w'→F w'
structure BwF (W:World) (F:World→Prop) where
 w':World
 h:Below W.heap.size W w'
 f:F w'
section
variable {P:Program} {W:World} {F:World→Prop}
theorem BwF.cell {a:Addr} {v:Value} (hb:a.block < W.heap.size) (h:W.cell? a = some v) (p:BwF W F) : p.w'.cell? a = some v:=(p.h.cell hb).trans h
theorem BwF.call {f:FuncId} {args:Array Value} {v:Value} (hF:Stable F) (p:BwF W F) (h:Calls P f args p.w' fun e w'=>e = .returned v∧Below p.w'.heap.size p.w' w') :
  Calls P f args p.w' fun e w''=>e = .returned v∧∃ q:BwF W F,w'' = q.w' :=
 h.mono fun _ w'' ⟨he,hb⟩=>⟨he,⟨w'',p.h.trans (hb.mono p.h.size),hF _ _ p.f hb⟩,rfl⟩
end
def valAt (aE:Act) (o:Oper) : Value:=(o.dst.bind (aE.tmps[·]?)).getD undef
def dstsOk (n:Nat) : List Oper→Bool
 | []=>true
 | o :: r=>(match o.dst with | some d=>decide (d < n) && r.all (fun o'=>o'.dst != some d) | none=>false) && dstsOk n r
section
variable {P:Program} {ops:Array Oper}
theorem put_at {a:Act} {d e : Nat} {v:Value} (h:e ≠ d) : (a.put (some e) v).tmps[d]? = a.tmps[d]?:=by
 show (a.tmps.setIfInBounds e v)[d]? = _
 rw [Array.getElem?_setIfInBounds_ne h]
theorem put_self {a:Act} {d:Nat} {v:Value} (h:d < a.tmps.size) : (a.put (some d) v).tmps[d]? = some v:=by
 show (a.tmps.setIfInBounds d v)[d]? = _
 rw [Array.getElem?_setIfInBounds_self_of_lt h]
theorem put_size (a:Act) (d:Option Nat) (v:Value) : (a.put d v).tmps.size = a.tmps.size:=by
 cases d with
 | none=>rfl
 | some d=>show (a.tmps.setIfInBounds d v).size = _; simp
theorem quiet_kept {C:World→Prop} {aE:Act} {d:Nat} : ∀ (l:List Oper) (a:Act),l.all (fun o'=>o'.dst != some d) = true→(∀ o ∈ l,o.dst ≠ none)→wpQuiet P ops C (fun a'=>a' = aE) l a→aE.tmps[d]? = a.tmps[d]?
 | [],a,_,_,h=>by rw [show a = aE from h]
 | o :: l,a,hd,hn,h=>by
  simp only [List.all_cons,Bool.and_eq_true,bne_iff_ne,ne_eq] at hd
  obtain ⟨e,he⟩:=Option.ne_none_iff_exists'.1 (hn o (by simp))
  have hed:e ≠ d:=fun x=>hd.1 (by rw [he,x])
  unfold wpQuiet at h
  split at h
  ·
   obtain ⟨v,_,h2⟩:=h
   rw [quiet_kept l _ hd.2 (fun o ho=>hn o (by simp [ho])) h2,he,put_at hed]
  ·
   rw [quiet_kept l _ hd.2 (fun o ho=>hn o (by simp [ho])) h,he,put_at hed]
theorem dstsOk_some {n:Nat} : ∀ {l:List Oper},dstsOk n l = true→∀ o ∈ l,o.dst ≠ none
 | [],_,o,ho=>by cases ho
 | x :: r,h,o,ho=>by
  simp only [dstsOk,Bool.and_eq_true] at h
  rcases List.mem_cons.1 ho with e | e
  ·
   subst e
   intro hh
   rw [hh] at h
   cases h.1
  ·
   exact dstsOk_some h.2 o e
theorem mix_step {md:Region.Mode} {C:World→Prop} {Q:Act→World→Prop} {n:Nat} {listed:Array Bool} {a:Act} {w:World} (rs:List Nat) (hr:Region.ready md ops listed = rs) (hne:rs ≠ [])
  (h:∀ w',C w'→Below w.heap.size w w'→∀ i ∈ rs,stepM P ops C i (fun a1 w1=>C w1∧wpMix P md ops C Q n (listed.setIfInBounds i true) a1 w1) a w') : wpMix P md ops C Q (n+1) listed a w:=by
 subst hr
 exact fun w' c b=>⟨fun e=>absurd e hne,h w' c b⟩
theorem mix_end {md:Region.Mode} {C:World→Prop} {Q:Act→World→Prop} {listed:Array Bool} {a:Act} {w:World} (hr:Region.ready md ops listed = []) (h : ∀ w',C w'→Below w.heap.size w w'→Q a w') : wpMix P md ops C Q 0 listed a w :=
 fun w' c b=>⟨hr,h w' c b⟩
theorem mix_op {C:World→Prop} {i:Nat} {o:Oper} {K:Act→World→Prop} {a:Act} {w:World} (ho:ops[i]? = some o) (hw:Region.wanted o (yielded ops a.tmps) = true) (h:plainUpon o a K ((execOp a.eval o).run P w)) : stepM P ops C i K a w:=by
 right
 unfold mOp
 simp only [ho,hw,if_true]
 exact h
theorem mix_val {C:World→Prop} {i:Nat} {o:Oper} {K:Act→World→Prop} {a:Act} {w:World} (v:Value) (w1:World) (ho:ops[i]? = some o) (hw:Region.wanted o (yielded ops a.tmps) = true) (hrun : (execOp a.eval o).run P w = .ok (.value v) w1) (h:K (a.put o.dst v) w1) : stepM P ops C i K a w :=
 mix_op ho hw (by rw [hrun]; exact h)
theorem mix_skip {C:World→Prop} {i:Nat} {o:Oper} {K:Act→World→Prop} {a:Act} {w:World} (w1:World) (ho:ops[i]? = some o) (hw:Region.wanted o (yielded ops a.tmps) = true) (hrun : (execOp a.eval o).run P w = .ok .skip w1) (h:K (a.put o.dst undef) w1) : stepM P ops C i K a w :=
 mix_op ho hw (by rw [hrun]; exact h)
end
end Go.Proofs.YtopekilofdadnaaGreatDoor
