/- Joined texts: Mix6. Conditions: as stated. -/
import Derived.Sort.Grow
import Derived.Test.YtopekilofdadnaaGreatDoorJMix2
namespace Go.Proofs.YtopekilofdadnaaGreatDoor
open Go.RowKit
structure Gr (w w' : World) : Prop where
 b:Below w.heap.size w w'
 d:w.drawn≤w'.drawn
theorem Gr.refl (w:World) : Gr w w:=⟨Below.refl _ _,Nat.le_refl _⟩
theorem Gr.trans {a b c : World} (h:Gr a b) (k:Gr b c) : Gr a c:=⟨bel_adv h.b k.b,Nat.le_trans h.d k.d⟩
theorem Gr.drew (w:World) : Gr w { w with drawn:=w.drawn+1 }:=⟨below_drewN (Below.refl _ _) 1,Nat.le_succ _⟩
theorem Gr.drewN (w:World) (n:Nat) : Gr w (w.drewN n):=⟨below_drewN (Below.refl _ _) n,Nat.le_add_right _ _⟩
theorem Gr.alloc (w:World) (o:Obj) : Gr w (w.alloc o):=⟨below_new _ _,Nat.le_refl _⟩
theorem Gr.form {w w' : World} (h:Gr w w') : ∃ q os,w' = Go.Sort.grow (w.drewN q) os:=by
 refine ⟨w'.drawn - w.drawn,w'.heap.extract w.heap.size w'.heap.size,?_⟩
 have hh:w'.heap = w.heap++w'.heap.extract w.heap.size w'.heap.size:=by
  apply Array.ext_getElem?
  intro i
  rcases Nat.lt_or_ge i w.heap.size with hi | hi
  ·
   rw [h.b.block i hi,Array.getElem?_append_left hi]
  ·
   rw [Array.getElem?_append_right hi,Array.getElem?_extract]
   have:=h.b.size
   split
   ·
    congr 1; omega
   ·
    rw [Array.getElem?_eq_none]; omega
 have hd:w.drawn+(w'.drawn - w.drawn) = w'.drawn:=by have:=h.d; omega
 obtain ⟨heap,tape,drawn,os,output⟩:=w'
 simp only [Go.Sort.grow,World.drewN]
 rw [← hh,hd,← h.b.tape,← h.b.os,← h.b.output]
def StableG (F:World→Prop) : Prop:=∀ w w',F w→Gr w w'→F w'
theorem BwC.callG {P:Program} {C F : World→Prop} {f:FuncId} {args:Array Value} {v:Value} (hC0:StableG C) (hF:StableG F) (p:BwC C F) (h:Calls P f args p.w' fun e w'=>e = .returned v∧Gr p.w' w') :
  Calls P f args p.w' fun e w''=>e = .returned v∧∃ q:BwC C F,w'' = q.w' :=
 h.mono fun _ w'' ⟨he,hb⟩=>⟨he,⟨w'',hC0 _ _ p.h hb,hF _ _ p.f hb⟩,rfl⟩
theorem BwC.sameG {P:Program} {C F : World→Prop} {f:FuncId} {args:Array Value} {v:Value} (p:BwC C F) (h:Calls P f args p.w' fun e w'=>e = .returned v∧p.w' = w') :
  Calls P f args p.w' fun e w''=>e = .returned v∧∃ q:BwC C F,w'' = q.w' :=
 h.mono fun _ _ ⟨he,hb⟩=>⟨he,p,hb.symm⟩
theorem BwC.cellH {F:World→Prop} {W:World} {a:Addr} {v:Value} (hlt:a.block < W.heap.size) (h:W.cell? a = some v) (p:BwC (fun w'=>Gr W w') F) : p.w'.cell? a = some v:=(p.h.b.cell hlt).trans h
theorem stableGr (W:World) : StableG (fun w'=>Gr W w'):=fun _ _ h k=>h.trans k
namespace M6
section
variable {P:Program} {ops:Array Oper} {md:Region.Mode} {C:World→Prop}
def YieldsB (P:Program) (ops:Array Oper) (C:World→Prop) (o:Oper) (v:Value) (a:Act) : Prop :=
 (Region.wanted o (yielded ops a.tmps) = true∧∀ w,C w→o.quietAt P a (fun w''=>C w''∧Gr w w'') w v) ∨
 (Region.wanted o (yielded ops a.tmps) = false∧v = undef)
theorem YieldsB.of_same {o:Oper} {v:Value} {a a' : Act} (hy:YieldsB P ops C o v a) (he:execOp a'.eval o = execOp a.eval o)
  (hw:Region.wanted o (yielded ops a'.tmps) = Region.wanted o (yielded ops a.tmps)) : YieldsB P ops C o v a':=by
 unfold YieldsB Oper.quietAt at *
 rw [he,hw]
 exact hy
def plainUpon (P:Program) (o:Oper) (a:Act) (K:Act→World→Prop) : Result Next→Prop
 | .ok (.value v) w'=>K (a.put o.dst v) w'
 | .ok .skip w'=>K (a.put o.dst undef) w'
 | .ok (.enter f args) w'=>Calls P f args w' fun e w''=>∃ v,e = .returned v∧K (a.put o.dst v) w''
 | _=>False
def mOp (P:Program) (ops:Array Oper) (i:Nat) (K:Act→World→Prop) (a:Act) (w:World) : Prop :=
 match ops[i]? with
 | none=>K a w
 | some o=>if Region.wanted o (yielded ops a.tmps) then plainUpon P o a K ((execOp a.eval o).run P w) else K (a.put o.dst undef) w
def stepM (P:Program) (ops:Array Oper) (C:World→Prop) (i:Nat) (K:Act→World→Prop) (a:Act) (w:World) : Prop :=
 (∃ o v,ops[i]? = some o∧YieldsB P ops C o v a∧∀ w'',C w''→Gr w w''→K (a.put o.dst v) w'') ∨ mOp P ops i K a w
theorem stepM_mono {i:Nat} {a:Act} {w:World} {K K' : Act→World→Prop} (h : ∀ a w,K a w→K' a w) (hh:stepM P ops C i K a w) : stepM P ops C i K' a w:=by
 rcases hh with ⟨o,v,h1,h2,h3⟩ | hh
 ·
  exact .inl ⟨o,v,h1,h2,fun w'' c b=>h _ _ (h3 w'' c b)⟩
 ·
  right
  unfold mOp at *
  split
  ·
   rename_i ho; simp only [ho] at hh; exact h _ _ hh
  ·
   rename_i o ho
   simp only [ho] at hh
   split
   ·
    rename_i hw
    simp only [hw,if_true] at hh
    generalize (execOp a.eval o).run P w = r at *
    cases r with
    | ok n w' =>
     cases n <;> simp only [plainUpon] at hh ⊢
     case value u=>exact h _ _ hh
     case skip=>exact h _ _ hh
     case enter f args=>exact hh.mono fun e w'' ⟨v,he,hk⟩=>⟨v,he,h _ _ hk⟩
    | halt x w'=>simp only [plainUpon] at hh
   ·
    rename_i hw; simp only [hw] at hh; exact h _ _ hh
theorem wpOp_of_stepM {i:Nat} {a:Act} {w:World} {K:Act→World→Prop} {Q:Exit→Act→World→Prop} (hC:C w) (hh:stepM P ops C i K a w) : wpOp P ops Q i K a w:=by
 rcases hh with ⟨o,v,h1,h2,h3⟩ | hh
 ·
  unfold wpOp
  simp only [h1]
  rcases h2 with ⟨hw,hy⟩ | ⟨hw,rfl⟩
  ·
   simp only [hw,if_true]
   left
   have h4:=hy w hC
   unfold Oper.quietAt at h4
   unfold Oper.wp
   generalize (execOp a.eval o).run P w = r at *
   cases r with
   | ok n w' =>
    cases n <;> simp only [Oper.quietUpon] at h4 <;> simp only [Oper.upon]
    case value u =>
     obtain ⟨e1,e2⟩:=h4
     rw [e1,e2]
     exact h3 _ hC (Gr.refl _)
    case skip =>
     obtain ⟨e1,e2⟩:=h4
     rw [e1,← e2]
     exact h3 _ hC (Gr.refl _)
    case enter f args =>
     obtain ⟨e1,hc⟩:=h4
     rw [e1]
     exact hc.mono fun e w'' ⟨he,hw''⟩=>by subst he; exact h3 _ hw''.1 hw''.2
   | halt x w'=>simp only [Oper.quietUpon] at h4
  ·
   simp only [hw,Bool.false_eq_true,if_false]
   exact h3 _ hC (Gr.refl _)
 ·
  unfold mOp at hh
  unfold wpOp
  split
  ·
   rename_i ho; simp only [ho] at hh; exact hh
  ·
   rename_i o ho
   simp only [ho] at hh
   split
   ·
    rename_i hw
    simp only [hw,if_true] at hh
    left
    unfold Oper.wp
    generalize (execOp a.eval o).run P w = r at *
    cases r with
    | ok n w' =>
     cases n <;> simp only [plainUpon] at hh <;> simp only [Oper.upon]
     case value u=>exact hh
     case skip=>exact hh
     case enter f args=>exact hh.mono fun e w'' ⟨v,he,hk⟩=>by subst he; exact hk
    | halt x w'=>simp only [plainUpon] at hh
   ·
    rename_i hw; simp only [hw] at hh; exact hh
theorem stepM_put {j:Nat} {oi oj : Oper} {v:Value} (hj:ops[j]? = some oj) (hap:oi.apart ops oj = true)
  (hsi:∀ cs b,oi.op ≠ .select cs b) (hsj:∀ cs b,oj.op ≠ .select cs b) {K:Act→World→Prop} {a:Act} {w:World}
  (hy:YieldsB P ops C oi v a) (h:stepM P ops C j K (a.put oi.dst v) w) :
  stepM P ops C j (fun a' w'=>YieldsB P ops C oi v a'∧K (a'.put oi.dst v) w') a w:=by
 obtain ⟨h1,h2,h3⟩:=Oper.apart_spec hap
 have keep:∀ u,YieldsB P ops C oi v (a.put oj.dst u):=fun u=>hy.of_same (execOp_put oi hsi a oj.dst u h3) (wanted_put oi a oj.dst u h3)
 rcases h with ⟨o,u,g1,g2,g3⟩ | h
 ·
  rw [hj] at g1
  injection g1 with g1
  subst g1
  refine .inl ⟨oj,u,hj,g2.of_same (execOp_put oj hsj a oi.dst v h1).symm (wanted_put oj a oi.dst v h1).symm,fun w'' c b=>⟨keep u,?_⟩⟩
  rw [← Act.put_comm a v u h2]
  exact g3 w'' c b
 ·
  right
  unfold mOp at *
  simp only [hj] at *
  rw [wanted_put oj a oi.dst v h1] at h
  split
  ·
   rename_i hw
   simp only [hw,if_true] at h
   rw [execOp_put oj hsj a oi.dst v h1] at h
   generalize (execOp a.eval oj).run P w = r at *
   cases r with
   | ok n w' =>
    cases n <;> simp only [plainUpon] at h ⊢
    case value u=>exact ⟨keep _,by rw [← Act.put_comm a v _ h2]; exact h⟩
    case skip=>exact ⟨keep _,by rw [← Act.put_comm a v _ h2]; exact h⟩
    case enter f args=>exact h.mono fun e w'' ⟨u,he,hk⟩=>⟨u,he,keep _,by rw [← Act.put_comm a v _ h2]; exact hk⟩
   | halt x w'=>simp only [plainUpon] at h
  ·
   rename_i hw
   simp only [hw] at h
   exact ⟨keep _,by rw [← Act.put_comm a v undef h2]; exact h⟩
def wpMix (P:Program) (md:Region.Mode) (ops:Array Oper) (C:World→Prop) (Q:Act→World→Prop) : Nat→Array Bool→Act→World→Prop
 | 0,listed,a,w=>∀ w',C w'→Gr w w'→Region.ready md ops listed = []∧Q a w'
 | fuel+1,listed,a,w=>∀ w',C w'→Gr w w' →
  (Region.ready md ops listed = []→Q a w') ∧
  ∀ i ∈ Region.ready md ops listed,stepM P ops C i (fun a1 w1=>C w1∧wpMix P md ops C Q fuel (listed.setIfInBounds i true) a1 w1) a w'
theorem wpMix_mono {Q:Act→World→Prop} : ∀ {n:Nat} {listed:Array Bool} {a:Act} {w w2 : World},wpMix P md ops C Q n listed a w→Gr w w2→wpMix P md ops C Q n listed a w2
 | 0,_,_,_,_,h,hb=>fun w' c b=>h w' c (hb.trans b)
 | _+1,_,_,_,_,h,hb=>fun w' c b=>h w' c (hb.trans b)
theorem wpAny_of_mix {Q:Act→World→Prop} {Q' : Exit→Act→World→Prop} (hQ : ∀ a w,Q a w→Q' .normal a w) : ∀ (fuel:Nat) (listed:Array Bool) (a:Act) (w:World),C w→wpMix P md ops C Q fuel listed a w→wpAny P md ops Q' fuel listed a w
 | 0,_,_,w,hw,h=>⟨(h w hw (Gr.refl _)).1,hQ _ _ (h w hw (Gr.refl _)).2⟩
 | fuel+1,_,_,w,hw,h=>⟨fun h0=>hQ _ _ ((h w hw (Gr.refl _)).1 h0),fun i hi=>wpOp_of_stepM hw (stepM_mono (fun a' w' h'=>wpAny_of_mix hQ fuel _ a' w' h'.1 h'.2) ((h w hw (Gr.refl _)).2 i hi))⟩
theorem wpMix_first {Q:Act→World→Prop} {i:Nat} {oi:Oper} {v:Value} (hi:ops[i]? = some oi) (hsel : ∀ (j:Nat) (o:Oper) cs b,ops[j]? = some o→o.op ≠ .select cs b) :
  ∀ (fuel:Nat) (listed:Array Bool) (a:Act) (w:World),
   (∀ j oj,ops[j]? = some oj→j ≠ i→listed.getD j true = false→(∀ e ∈ oj.after,Region.binds md e = true→e.on ≠ i)→oi.apart ops oj = true) →
   i ∈ Region.ready md ops listed→YieldsB P ops C oi v a →
   wpMix P md ops C Q fuel (listed.setIfInBounds i true) (a.put oi.dst v) w→wpMix P md ops C Q (fuel+1) listed a w:=by
 intro fuel
 induction fuel with
 | zero =>
  intro listed a w _ hr hy H w' hC hb
  refine ⟨fun h=>(by rw [h] at hr; cases hr),fun j hj=>?_⟩
  by_cases hji:j = i
  ·
   subst hji
   exact .inl ⟨oi,v,hi,hy,fun w'' c b=>⟨c,wpMix_mono H (hb.trans b)⟩⟩
  ·
   have:=ready_mono hj hji
   rw [(H w' hC hb).1] at this
   cases this
 | succ fuel ih =>
  intro listed a w hfree hr hy H w' hC hb
  refine ⟨fun h=>(by rw [h] at hr; cases hr),fun j hj=>?_⟩
  by_cases hji:j = i
  ·
   subst hji
   exact .inl ⟨oi,v,hi,hy,fun w'' c b=>⟨c,wpMix_mono H (hb.trans b)⟩⟩
  ·
   have h1:=(H w' hC hb).2 j (ready_mono hj hji)
   obtain ⟨hjun,oj,hoj,hall⟩:=mem_ready.1 hj
   have hnot:∀ e ∈ oj.after,Region.binds md e = true→e.on ≠ i:=fun e he hb heq=>by
    have h1:=hall e he hb
    have h0:=(mem_ready.1 hr).1
    rw [heq] at h1
    rcases Nat.lt_or_ge i listed.size with h' | h'
    ·
     simp [h'] at h0 h1; rw [h0] at h1; cases h1
    ·
     simp [Array.getElem?_eq_none h'] at h1
   have h2:=stepM_put hoj (hfree j oj hoj hji hjun hnot) (fun cs b=>hsel i oi cs b hi) (fun cs b=>hsel j oj cs b hoj) hy h1
   have hfree':∀ k ok,ops[k]? = some ok→k ≠ i→(listed.setIfInBounds j true).getD k true = false →
     (∀ e ∈ ok.after,Region.binds md e = true→e.on ≠ i)→oi.apart ops ok = true:=fun k ok hk hki hun hno=>by
    refine hfree k ok hk hki ?_ hno
    by_cases hjk:j = k
    ·
     subst hjk; exact hjun
    ·
     rw [getD_set_ne true hjk] at hun; exact hun
   refine stepM_mono (fun a' w1 h3=>⟨h3.2.1,ih (listed.setIfInBounds j true) a' w1 hfree' (ready_mono hr (Ne.symm hji)) h3.1 ?_⟩) h2
   rw [Array.setIfInBounds_comm _ _ hji]
   exact h3.2.2
def lexSel (md:Region.Mode) (ops:Array Oper) : List Nat→Array Bool→Bool
 | [],_=>true
 | k :: r,listed=>(Region.ready md ops listed).contains k && Region.free md ops listed k && lexSel md ops r (listed.setIfInBounds k true)
def listSel : List Nat→Array Bool→Array Bool
 | [],listed=>listed
 | k :: r,listed=>listSel r (listed.setIfInBounds k true)
def LexV (P:Program) (ops:Array Oper) (C:World→Prop) (aE:Act) (val:Oper→Value) : List Oper→Act→Prop
 | [],a=>a = aE
 | o :: r,a=>YieldsB P ops C o (val o) a∧LexV P ops C aE val r (a.put o.dst (val o))
def opsAt (ops:Array Oper) : List Nat→List Oper
 | []=>[]
 | k :: r=>match ops[k]? with
  | some o=>o :: opsAt ops r
  | none=>[]
theorem wpMix_sel {Q:Act→World→Prop} {aE:Act} {val:Oper→Value} (hs:Region.noSelect ops = true) {m:Nat} {w:World} : ∀ (is:List Nat) (listed:Array Bool) (a:Act),is.all (fun i=>decide (i < ops.size)) = true →
  lexSel md ops is listed = true→LexV P ops C aE val (opsAt ops is) a→wpMix P md ops C Q m (listSel is listed) aE w→wpMix P md ops C Q (m+is.length) listed a w
 | [],_,_,_,_,h,hM=>by cases h; exact hM
 | k :: r,listed,a,hl,hB,h,hM=>by
  simp only [List.all_cons,Bool.and_eq_true,decide_eq_true_eq] at hl
  have h0 : ops[k]? = some (ops[k]'hl.1) := Array.getElem?_eq_getElem hl.1
  simp only [lexSel,Bool.and_eq_true] at hB
  obtain ⟨⟨hr,hf⟩,hB'⟩:=hB
  simp only [opsAt,h0] at h
  exact wpMix_first h0 (Region.noSelect_spec hs) (m+r.length) listed a w (Region.free_spec h0 hf) (by simpa using hr) h.1
   (wpMix_sel hs r _ _ hl.2 hB' h.2 hM)
end
def valAt (aE:Act) (o:Oper) : Value:=(o.dst.bind (aE.tmps[·]?)).getD undef
def dstsOk (n:Nat) : List Oper→Bool
 | []=>true
 | o :: r=>(match o.dst with | some d=>decide (d < n) && r.all (fun o'=>o'.dst != some d) | none=>false) && dstsOk n r
section
variable {P:Program} {ops:Array Oper}
theorem put_at {a:Act} {d e : Nat} {v:Value} (h:e ≠ d) : (a.put (some e) v).tmps[d]? = a.tmps[d]?:=by
 show (a.tmps.setIfInBounds e v)[d]? = _
 rw [Array.getElem?_setIfInBounds_ne h]
theorem put_self {a:Act} {d:Nat} {v:Value} (h:d < a.tmps.size) : (a.put (some d) v).tmps[d]? = some v:=by
 show (a.tmps.setIfInBounds d v)[d]? = _
 rw [Array.getElem?_setIfInBounds_self_of_lt h]
theorem put_size (a:Act) (d:Option Nat) (v:Value) : (a.put d v).tmps.size = a.tmps.size:=by
 cases d with
 | none=>rfl
 | some d=>show (a.tmps.setIfInBounds d v).size = _; simp
theorem quiet_kept {C:World→Prop} {aE:Act} {d:Nat} : ∀ (l:List Oper) (a:Act),l.all (fun o'=>o'.dst != some d) = true→(∀ o ∈ l,o.dst ≠ none)→wpQuiet P ops C (fun a'=>a' = aE) l a→aE.tmps[d]? = a.tmps[d]?
 | [],a,_,_,h=>by rw [show a = aE from h]
 | o :: l,a,hd,hn,h=>by
  simp only [List.all_cons,Bool.and_eq_true,bne_iff_ne,ne_eq] at hd
  obtain ⟨e,he⟩:=Option.ne_none_iff_exists'.1 (hn o (by simp))
  have hed:e ≠ d:=fun x=>hd.1 (by rw [he,x])
  unfold wpQuiet at h
  split at h
  ·
   obtain ⟨v,_,h2⟩:=h
   rw [quiet_kept l _ hd.2 (fun o ho=>hn o (by simp [ho])) h2,he,put_at hed]
  ·
   rw [quiet_kept l _ hd.2 (fun o ho=>hn o (by simp [ho])) h,he,put_at hed]
theorem dstsOk_some {n:Nat} : ∀ {l:List Oper},dstsOk n l = true→∀ o ∈ l,o.dst ≠ none
 | [],_,o,ho=>by cases ho
 | x :: r,h,o,ho=>by
  simp only [dstsOk,Bool.and_eq_true] at h
  rcases List.mem_cons.1 ho with e | e
  ·
   subst e
   intro hh
   rw [hh] at h
   cases h.1
  ·
   exact dstsOk_some h.2 o e
theorem mix_step {md:Region.Mode} {C:World→Prop} {Q:Act→World→Prop} {n:Nat} {listed:Array Bool} {a:Act} {w:World} (rs:List Nat) (hr:Region.ready md ops listed = rs) (hne:rs ≠ [])
  (h:∀ w',C w'→Gr w w'→∀ i ∈ rs,stepM P ops C i (fun a1 w1=>C w1∧wpMix P md ops C Q n (listed.setIfInBounds i true) a1 w1) a w') : wpMix P md ops C Q (n+1) listed a w:=by
 subst hr
 exact fun w' c b=>⟨fun e=>absurd e hne,h w' c b⟩
theorem mix_end {md:Region.Mode} {C:World→Prop} {Q:Act→World→Prop} {listed:Array Bool} {a:Act} {w:World} (hr:Region.ready md ops listed = []) (h : ∀ w',C w'→Gr w w'→Q a w') : wpMix P md ops C Q 0 listed a w :=
 fun w' c b=>⟨hr,h w' c b⟩
theorem mix_op {C:World→Prop} {i:Nat} {o:Oper} {K:Act→World→Prop} {a:Act} {w:World} (ho:ops[i]? = some o) (hw:Region.wanted o (yielded ops a.tmps) = true) (h:plainUpon P o a K ((execOp a.eval o).run P w)) : stepM P ops C i K a w:=by
 right
 unfold mOp
 simp only [ho,hw,if_true]
 exact h
theorem mix_val {C:World→Prop} {i:Nat} {o:Oper} {K:Act→World→Prop} {a:Act} {w:World} (v:Value) (w1:World) (ho:ops[i]? = some o) (hw:Region.wanted o (yielded ops a.tmps) = true) (hrun : (execOp a.eval o).run P w = .ok (.value v) w1) (h:K (a.put o.dst v) w1) : stepM P ops C i K a w :=
 mix_op ho hw (by rw [hrun]; exact h)
theorem mix_skip {C:World→Prop} {i:Nat} {o:Oper} {K:Act→World→Prop} {a:Act} {w:World} (w1:World) (ho:ops[i]? = some o) (hw:Region.wanted o (yielded ops a.tmps) = true) (hrun : (execOp a.eval o).run P w = .ok .skip w1) (h:K (a.put o.dst undef) w1) : stepM P ops C i K a w :=
 mix_op ho hw (by rw [hrun]; exact h)
end
section
variable {P:Program} {ops:Array Oper} {C:World→Prop}
theorem lexC_of {aE:Act} (hC0:StableG C) {W:World} (hW:C W) : ∀ (l:List Oper) (a:Act),dstsOk a.tmps.size l = true→(∀ F : World→Prop,StableG F→Inhabited (BwC C F)→wpQuiet P ops (fun w'=>∃ p : BwC C F,w' = p.w') (fun a'=>a' = aE) l a) →
  LexV P ops C aE (valAt aE) l a
 | [],a,_,H=>H (fun _=>True) (fun _ _ _ _=>trivial) ⟨⟨W,hW,trivial⟩⟩
 | o :: l,a,hd,H=>by
  have hd':=hd
  simp only [dstsOk,Bool.and_eq_true] at hd
  obtain ⟨hd1,hd2⟩:=hd
  obtain ⟨d,hdd⟩:=Option.ne_none_iff_exists'.1 (dstsOk_some hd' o (by simp))
  rw [hdd] at hd1
  simp only [Bool.and_eq_true,decide_eq_true_eq] at hd1
  have hnn:=dstsOk_some hd2
  have hsz:∀ v,dstsOk (a.put o.dst v).tmps.size l = true:=fun v=>by rw [put_size]; exact hd2
  have hval:∀ (C:World→Prop) (v:Value),wpQuiet P ops C (fun a'=>a' = aE) l (a.put o.dst v)→valAt aE o = v:=fun C v h=>by
   have h1:=quiet_kept (d:=d) l _ hd1.2 hnn h
   rw [hdd,put_self hd1.1] at h1
   unfold valAt
   rw [hdd]
   simp [h1]
  by_cases hw:Region.wanted o (yielded ops a.tmps) = true
  ·
   have H':∀ F:World→Prop,StableG F→Inhabited (BwC C F)→(∀ w,(∃ p:BwC C F,w = p.w')→o.quietAt P a (fun w'=>∃ p:BwC C F,w' = p.w') w (valAt aE o))∧wpQuiet P ops (fun w'=>∃ p:BwC C F,w' = p.w') (fun a'=>a' = aE) l (a.put o.dst (valAt aE o)):=by
    intro F hF inst
    have h:=H F hF inst
    unfold wpQuiet at h
    rw [if_pos hw] at h
    obtain ⟨v,h1,h2⟩:=h
    rw [hval _ v h2]
    exact ⟨h1,h2⟩
   refine ⟨.inl ⟨hw,fun w hC=>?_⟩,lexC_of hC0 hW l _ (hsz _) (fun F hF inst=>(H' F hF inst).2)⟩
   have h1:=(H' (fun w'=>Gr w w') (fun w1 w2 b1 b2=>b1.trans b2) ⟨⟨w,hC,Gr.refl _⟩⟩).1 w ⟨⟨w,hC,Gr.refl _⟩,rfl⟩
   unfold Oper.quietAt at *
   generalize (execOp a.eval o).run P w = r at *
   cases r with
   | ok n w' =>
    cases n <;> simp only [Oper.quietUpon] at h1 ⊢
    case value u=>exact h1
    case skip=>exact h1
    case enter f args=>exact ⟨h1.1,h1.2.mono fun e w'' ⟨he,p,hp⟩=>⟨he,by rw [hp]; exact ⟨p.h,p.f⟩⟩⟩
   | halt x w'=>simp only [Oper.quietUpon] at h1
  ·
   have hw':Region.wanted o (yielded ops a.tmps) = false:=by simpa using hw
   have H':∀ F:World→Prop,StableG F→Inhabited (BwC C F)→wpQuiet P ops (fun w'=>∃ p:BwC C F,w' = p.w') (fun a'=>a' = aE) l (a.put o.dst undef):=by
    intro F hF inst
    have h:=H F hF inst
    unfold wpQuiet at h
    rw [if_neg hw] at h
    exact h
   have hv:=hval _ undef (H' (fun _=>True) (fun _ _ _ _=>trivial) ⟨⟨W,hW,trivial⟩⟩)
   rw [LexV,hv]
   exact ⟨.inr ⟨hw',rfl⟩,lexC_of hC0 hW l _ (hsz _) H'⟩
theorem wp_region_sel (hC0:StableG C) {id:Nat} {Q:Exit→Act→World→Prop} {a aE : Act} {W:World} (hW:C W) {L:List Oper} (is:List Nat) (m:Nat) (hm:P.follows .mixedOrders = true) (hs:Region.noSelect L.toArray = true) (hn:m+is.length = L.length)
  (hi:is.all (fun i=>decide (i < L.toArray.size)) = true) (hB:lexSel .any L.toArray is (Array.replicate L.length false) = true) (hd:dstsOk a.tmps.size (opsAt L.toArray is) = true)
  (H:∀ F:World→Prop,StableG F→Inhabited (BwC C F)→wpQuiet P L.toArray (fun w'=>∃ p:BwC C F,w' = p.w') (fun a'=>a' = aE) (opsAt L.toArray is) a)
  (M:∀ Q0:Act→World→Prop,(∀ a w,Q .normal a w→Q0 a w)→wpMix P .any L.toArray C Q0 m (listSel is (Array.replicate L.length false)) aE W) : (Code.region id L.toArray true).wp P Q a W:=by
 refine wp_region_any hm ?_
 have h1:=wpMix_sel (md:=.any) hs is (Array.replicate L.length false) a hi hB (lexC_of hC0 hW _ a hd H) (M _ fun _ _ h=>h)
 have h2:=wpAny_of_mix (Q':=Q) (fun _ _ h=>h) _ _ _ { W with drawn:=W.drawn+1 } (hC0 _ _ hW (Gr.drew W)) (wpMix_mono h1 (Gr.drew W))
 rw [hn] at h2
 simpa using h2
theorem mix_call {i:Nat} {o:Oper} {K:Act→World→Prop} {a:Act} {w:World} (f:FuncId) (args:Array Value) (ho:ops[i]? = some o) (hw:Region.wanted o (yielded ops a.tmps) = true) (hrun : (execOp a.eval o).run P w = .ok (.enter f args) w)
  (h:Calls P f args w fun e w''=>∃ v,e = .returned v∧K (a.put o.dst v) w'') : stepM P ops C i K a w :=
 mix_op ho hw (by rw [hrun]; exact h)
theorem mix_append {α:Type} {enc:α→List Value} {k:Nat} {e:TypeId} {W:World} {base B : Nat} {v:Value} {xs ys : List α} {A:Option Addr} {m:Nat} {o:Oper} {a:Act} {K:Act→World→Prop} {i:Nat} (s x : Operand) (t:TypeId) (c bytes : Nat) (z:Value)
  (hinfo:(P.info? e).map (fun i=>(i.zero,i.size,i.bytes)) = some (some z,k,bytes)) (ht:P.underlying t = some (.slice e))
  (hown:Own enc k e W base v xs) (hys:SliceOf enc k W B A ys) (hk:∀ x,(enc x).length = k) (hk0:0 < k) (hzs:z.cells.size = k) (h1:∀ y,∀ u ∈ enc y,u.oneCell' = true)
  (hlen:xs.length+ys.length≤4294967296) (hby:bytes≤1024) (hbase:base≤W.heap.size)
  (hoi:ops[i]? = some o) (hgd:o.guard = none) (ho:o.op = .call { callee:=.builtin .append,args:=#[s,x],argTypes:=#[t,t] })
  (hs:a.eval s = v) (hx:a.eval x = .slice A m c) (hm:m = ys.length)
  (h:∀ v' w',Own enc k e w' base v' (xs++ys)→W.grownBy w' v.ownBlock→K (a.put o.dst v') w') : stepM P ops C i K a W:=by
 obtain ⟨v',w',hr,h2,h3⟩:=run_append_list (P:=P) t o.type c bytes z hinfo ht hown hys hk hk0 hzs h1 hlen hby hbase hm
 refine mix_val v' w' hoi (by simp [Region.wanted,hgd]) ?_ (h v' w' h2 h3)
 unfold execOp
 simp only [ho,resolve,invoke,builtin,Sem.run_bind,Sem.run_pure,Result.andThen_ok,List.map_toArray,List.map_cons,List.map_nil,hs,hx,hr]
end
end M6
end Go.Proofs.YtopekilofdadnaaGreatDoor
