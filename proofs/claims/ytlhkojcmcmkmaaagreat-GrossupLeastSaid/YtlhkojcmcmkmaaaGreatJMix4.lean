/- Joined texts: Mix4 NetO R32b. Conditions: as stated. -/
import Derived.StillTailTactics
import Derived.Test.YtlhkojcmcmkmaaaGreatJNetS
import Derived.Test.YtlhkojcmcmkmaaaGreatJDedV
import Derived.Test.YtlhkojcmcmkmaaaGreatJMix2
namespace Go.Proofs.YtlhkojcmcmkmaaaGreat
open Go.RowKit
namespace M5
section
variable {P:Program} {ops:Array Oper} {md:Region.Mode} {C:World→Prop} {s:Nat}
def wpMix (P:Program) (md:Region.Mode) (ops:Array Oper) (C:World→Prop) (s:Nat) (Q:Act→World→Prop) : Nat→Array Bool→Act→World→Prop
 | 0,listed,a,w=>∀ w',C w'→Below w.heap.size w w'→Region.ready md ops listed = []∧Q a w'
 | fuel+1,listed,a,w=>∀ w',C w'→Below w.heap.size w w' →
  (Region.ready md ops listed = []→Q a w') ∧
  ∀ i ∈ Region.ready md ops listed,M3.stepM P ops C i (fun a1 w1=>if i = s then Region.ready md ops (listed.setIfInBounds i true) = []∧Q a1 w1 else C w1∧wpMix P md ops C s Q fuel (listed.setIfInBounds i true) a1 w1) a w'
theorem wpMix_mono {Q:Act→World→Prop} : ∀ {n:Nat} {listed:Array Bool} {a:Act} {w w2 : World},wpMix P md ops C s Q n listed a w→Below w.heap.size w w2→wpMix P md ops C s Q n listed a w2
 | 0,_,_,_,_,h,hb=>fun w' c b=>h w' c (hb.trans (b.mono hb.size))
 | _+1,_,_,_,_,h,hb=>fun w' c b=>h w' c (hb.trans (b.mono hb.size))
theorem wpAny_done {Q' : Exit→Act→World→Prop} : ∀ (fuel:Nat) {listed:Array Bool} {a:Act} {w:World},Region.ready md ops listed = []→Q' .normal a w→wpAny P md ops Q' fuel listed a w
 | 0,_,_,_,h,q=>⟨h,q⟩
 | _+1,_,_,_,h,q=>⟨fun _=>q,fun i hi=>by rw [h] at hi; cases hi⟩
theorem wpAny_of_mix {Q:Act→World→Prop} {Q' : Exit→Act→World→Prop} (hQ : ∀ a w,Q a w→Q' .normal a w) : ∀ (fuel:Nat) (listed:Array Bool) (a:Act) (w:World),C w→wpMix P md ops C s Q fuel listed a w→wpAny P md ops Q' fuel listed a w
 | 0,_,_,w,hw,h=>⟨(h w hw (Below.refl _ _)).1,hQ _ _ (h w hw (Below.refl _ _)).2⟩
 | fuel+1,listed,_,w,hw,h=>⟨fun h0=>hQ _ _ ((h w hw (Below.refl _ _)).1 h0),fun i hi=>M3.wpOp_of_stepM hw (M3.stepM_mono (fun a' w' h'=>by
  by_cases his:i = s
  ·
   rw [if_pos his] at h'
   exact wpAny_done fuel h'.1 (hQ _ _ h'.2)
  ·
   rw [if_neg his] at h'
   exact wpAny_of_mix hQ fuel _ a' w' h'.1 h'.2) ((h w hw (Below.refl _ _)).2 i hi))⟩
theorem wpMix_first {Q:Act→World→Prop} {i:Nat} {oi os : Oper} {v:Value} (hi:ops[i]? = some oi) (hsel : ∀ (j:Nat) (o:Oper) cs b,ops[j]? = some o→o.op ≠ .select cs b)
  (hos:ops[s]? = some os) (hbs:∃ e ∈ os.after,Region.binds md e = true∧e.on = i) :
  ∀ (fuel:Nat) (listed:Array Bool) (a:Act) (w:World),
   (∀ j oj,ops[j]? = some oj→j ≠ i→listed.getD j true = false→(∀ e ∈ oj.after,Region.binds md e = true→e.on ≠ i)→oi.apart ops oj = true)→i ≠ s →
   i ∈ Region.ready md ops listed→M3.YieldsB P ops C oi v a →
   wpMix P md ops C s Q fuel (listed.setIfInBounds i true) (a.put oi.dst v) w→wpMix P md ops C s Q (fuel+1) listed a w:=by
 intro fuel
 induction fuel with
 | zero =>
  intro listed a w _ his hr hy H w' hC hb
  refine ⟨fun h=>(by rw [h] at hr; cases hr),fun j hj=>?_⟩
  by_cases hji:j = i
  ·
   subst hji
   rw [show (fun a1 w1=>if j = s then Region.ready md ops (listed.setIfInBounds j true) = []∧Q a1 w1 else C w1∧wpMix P md ops C s Q 0 (listed.setIfInBounds j true) a1 w1) = (fun a1 w1=>C w1∧wpMix P md ops C s Q 0 (listed.setIfInBounds j true) a1 w1) from by funext a1 w1; rw [if_neg his]]
   exact .inl ⟨oi,v,hi,hy,fun w'' c b=>⟨c,wpMix_mono H (hb.trans (b.mono hb.size))⟩⟩
  ·
   have:=ready_mono hj hji
   rw [(H w' hC hb).1] at this
   cases this
 | succ fuel ih =>
  intro listed a w hfree his hr hy H w' hC hb
  refine ⟨fun h=>(by rw [h] at hr; cases hr),fun j hj=>?_⟩
  by_cases hji:j = i
  ·
   subst hji
   rw [show (fun a1 w1=>if j = s then Region.ready md ops (listed.setIfInBounds j true) = []∧Q a1 w1 else C w1∧wpMix P md ops C s Q (fuel+1) (listed.setIfInBounds j true) a1 w1) = (fun a1 w1=>C w1∧wpMix P md ops C s Q (fuel+1) (listed.setIfInBounds j true) a1 w1) from by funext a1 w1; rw [if_neg his]]
   exact .inl ⟨oi,v,hi,hy,fun w'' c b=>⟨c,wpMix_mono H (hb.trans (b.mono hb.size))⟩⟩
  ·
   have h1:=(H w' hC hb).2 j (ready_mono hj hji)
   obtain ⟨hjun,oj,hoj,hall⟩:=mem_ready.1 hj
   have hnot:∀ e ∈ oj.after,Region.binds md e = true→e.on ≠ i:=fun e he hb heq=>by
    have h1:=hall e he hb
    have h0:=(mem_ready.1 hr).1
    rw [heq] at h1
    rcases Nat.lt_or_ge i listed.size with h' | h'
    ·
     simp [h'] at h0 h1; rw [h0] at h1; cases h1
    ·
     simp [Array.getElem?_eq_none h'] at h1
   have hjs:¬ j = s:=fun e=>by
    subst e
    rw [hos] at hoj
    injection hoj with hoj
    subst hoj
    obtain ⟨e,he,hb',hon⟩:=hbs
    exact hnot e he hb' hon
   simp only [if_neg hjs] at h1 ⊢
   have h2:=M3.stepM_put hoj (hfree j oj hoj hji hjun hnot) (fun cs b=>hsel i oi cs b hi) (fun cs b=>hsel j oj cs b hoj) hy h1
   have hfree':∀ k ok,ops[k]? = some ok→k ≠ i→(listed.setIfInBounds j true).getD k true = false →
     (∀ e ∈ ok.after,Region.binds md e = true→e.on ≠ i)→oi.apart ops ok = true:=fun k ok hk hki hun hno=>by
    refine hfree k ok hk hki ?_ hno
    by_cases hjk:j = k
    ·
     subst hjk; exact hjun
    ·
     rw [getD_set_ne true hjk] at hun; exact hun
   refine M3.stepM_mono (fun a' w1 h3=>⟨h3.2.1,ih (listed.setIfInBounds j true) a' w1 hfree' his (ready_mono hr (Ne.symm hji)) h3.1 ?_⟩) h2
   rw [Array.setIfInBounds_comm _ _ hji]
   exact h3.2.2
def lastOf (md:Region.Mode) (ops:Array Oper) (s k : Nat) : Bool:=decide (k ≠ s) && match ops[s]? with
 | some os=>os.after.any (fun e=>Region.binds md e && e.on == k)
 | none=>false
theorem lastOf_spec {k:Nat} (h:lastOf md ops s k = true) : k ≠ s∧∃ os,ops[s]? = some os∧∃ e ∈ os.after,Region.binds md e = true∧e.on = k:=by
 unfold lastOf at h
 rw [Bool.and_eq_true] at h
 refine ⟨of_decide_eq_true h.1,?_⟩
 have h2:=h.2
 split at h2
 ·
  rename_i os ho
  obtain ⟨e,he,hb⟩:=Array.any_eq_true'.1 h2
  simp only [Bool.and_eq_true,beq_iff_eq] at hb
  exact ⟨os,ho,e,he,hb.1,hb.2⟩
 ·
  cases h2
theorem wpMix_sel {Q:Act→World→Prop} {aE:Act} {val:Oper→Value} (hs:Region.noSelect ops = true) {m:Nat} {w:World} : ∀ (is:List Nat) (listed:Array Bool) (a:Act),is.all (fun i=>decide (i < ops.size)) = true→is.all (lastOf md ops s) = true →
  M3.lexSel md ops is listed = true→M3.LexV P ops C aE val (M3.opsAt ops is) a→wpMix P md ops C s Q m (M3.listSel is listed) aE w→wpMix P md ops C s Q (m+is.length) listed a w
 | [],_,_,_,_,_,h,hM=>by cases h; exact hM
 | k :: r,listed,a,hl,hla,hB,h,hM=>by
  simp only [List.all_cons,Bool.and_eq_true,decide_eq_true_eq] at hl hla
  have h0 : ops[k]? = some (ops[k]'hl.1) := Array.getElem?_eq_getElem hl.1
  simp only [M3.lexSel,Bool.and_eq_true] at hB
  obtain ⟨⟨hr,hf⟩,hB'⟩:=hB
  simp only [M3.opsAt,h0] at h
  obtain ⟨hks,os,hos,hbs⟩:=lastOf_spec hla.1
  exact wpMix_first h0 (Region.noSelect_spec hs) hos hbs (m+r.length) listed a w (Region.free_spec h0 hf) hks (by simpa using hr) h.1
   (wpMix_sel hs r _ _ hl.2 hla.2 hB' h.2 hM)
theorem mix_one {Q:Act→World→Prop} {n:Nat} {listed:Array Bool} {a:Act} {w:World} (i:Nat) (hr:Region.ready md ops listed = [i]) (hne : ¬ i = s)
  (h:∀ w',C w'→Below w.heap.size w w'→M3.stepM P ops C i (fun a1 w1=>C w1∧wpMix P md ops C s Q n (listed.setIfInBounds i true) a1 w1) a w') : wpMix P md ops C s Q (n+1) listed a w:=by
 intro w' c b
 refine ⟨fun e=>(by rw [hr] at e; cases e),fun j hj=>?_⟩
 rw [hr,List.mem_singleton] at hj
 subst hj
 simp only [if_neg hne]
 exact h w' c b
theorem mix_many {Q:Act→World→Prop} {n:Nat} {listed:Array Bool} {a:Act} {w:World} (rs:List Nat) (hr:Region.ready md ops listed = rs) (hne:rs.contains s = false) (h0:rs.isEmpty = false)
  (h:∀ w',C w'→Below w.heap.size w w'→∀ i ∈ rs,M3.stepM P ops C i (fun a1 w1=>C w1∧wpMix P md ops C s Q n (listed.setIfInBounds i true) a1 w1) a w') : wpMix P md ops C s Q (n+1) listed a w:=by
 subst hr
 intro w' c b
 refine ⟨fun e=>(by rw [e] at h0; cases h0),fun j hj=>?_⟩
 have hjs:¬ j = s:=fun e=>by
  subst e
  have:(Region.ready md ops listed).contains j = true:=by simpa using hj
  rw [this] at hne; cases hne
 simp only [if_neg hjs]
 exact h w' c b j hj
theorem mix_last {Q:Act→World→Prop} {n:Nat} {listed:Array Bool} {a:Act} {w:World} (hr:Region.ready md ops listed = [s]) (hr2:Region.ready md ops (listed.setIfInBounds s true) = [])
  (h:∀ w',C w'→Below w.heap.size w w'→M3.stepM P ops C s Q a w') : wpMix P md ops C s Q (n+1) listed a w:=by
 intro w' c b
 refine ⟨fun e=>(by rw [hr] at e; cases e),fun j hj=>?_⟩
 rw [hr,List.mem_singleton] at hj
 subst hj
 simp only [if_true]
 exact M3.stepM_mono (fun a1 w1 q=>⟨hr2,q⟩) (h w' c b)
theorem mix_take {Q:Act→World→Prop} {n:Nat} {listed:Array Bool} {a:Act} {w:World} (i:Nat) {o:Oper} (v:Value) (hs:Region.noSelect ops = true) (ho:ops[i]? = some o)
  (hr:((Region.ready md ops listed).contains i && Region.free md ops listed i && lastOf md ops s i) = true) (hw:Region.wanted o (yielded ops a.tmps) = true) (hrun:∀ w',(execOp a.eval o).run P w' = .ok (.value v) w')
  (h:wpMix P md ops C s Q n (listed.setIfInBounds i true) (a.put o.dst v) w) : wpMix P md ops C s Q (n+1) listed a w:=by
 simp only [Bool.and_eq_true] at hr
 obtain ⟨⟨h1,h2⟩,h3⟩:=hr
 obtain ⟨hks,os,hos,hbs⟩:=lastOf_spec h3
 refine wpMix_first ho (Region.noSelect_spec hs) hos hbs n listed a w (Region.free_spec ho h2) hks (by simpa using h1) (.inl ⟨hw,fun w' _=>?_⟩) h
 unfold Oper.quietAt
 rw [hrun]
 exact ⟨rfl,rfl⟩
end
section
variable {P:Program} {C:World→Prop}
theorem wp_region_sel (hC0:Stable C) {id:Nat} {Q:Exit→Act→World→Prop} {a aE : Act} {W:World} (hW:C W) {L:List Oper} (is:List Nat) (m s : Nat) (hm:P.follows .mixedOrders = true) (hs:Region.noSelect L.toArray = true) (hn:m+is.length = L.length)
  (hi:(is.all (fun i=>decide (i < L.toArray.size)) && is.all (lastOf .any L.toArray s) && M3.lexSel .any L.toArray is (Array.replicate L.length false)) = true) (hd:M3.dstsOk a.tmps.size (M3.opsAt L.toArray is) = true)
  (H:∀ F:World→Prop,Stable F→Inhabited (BwC C F)→wpQuiet P L.toArray (fun w'=>∃ p:BwC C F,w' = p.w') (fun a'=>a' = aE) (M3.opsAt L.toArray is) a)
  (M:∀ Q0:Act→World→Prop,(∀ a w,Q .normal a w→Q0 a w)→wpMix P .any L.toArray C s Q0 m (M3.listSel is (Array.replicate L.length false)) aE W) : (Code.region id L.toArray true).wp P Q a W:=by
 simp only [Bool.and_eq_true] at hi
 refine wp_region_any hm ?_
 have h1:=wpMix_sel (md:=.any) hs is (Array.replicate L.length false) a hi.1.1 hi.1.2 hi.2 (M3.lexC_of hC0 hW _ a hd H) (M _ fun _ _ h=>h)
 have h2:=wpAny_of_mix (Q':=Q) (fun _ _ h=>h) _ _ _ { W with drawn:=W.drawn+1 } (hC0 _ _ hW (show Below W.heap.size W { W with drawn:=W.drawn+1 } from below_drewN (Below.refl _ _) 1)) (wpMix_mono h1 (below_drewN (Below.refl W.heap.size W) 1))
 rw [hn] at h2
 simpa using h2
end
end M5
end Go.Proofs.YtlhkojcmcmkmaaaGreat
namespace Go.Proofs.YtlhkojcmcmkmaaaGreat
open Go.RowKit
def kindP (ws:List WageT) (x:Elem) : Int:=if earnB ws x = true then 1 else 2
def earnL (ws:List WageT) (l:List Elem) : List LineT:=(l.filter nz).map fun x=>⟨kindP ws x,x.code,x.amount⟩
theorem earnL_append (ws:List WageT) (l m : List Elem) : earnL ws (l++m) = earnL ws l++earnL ws m:=by simp [earnL]
theorem linesK_append (k:Int) (l m : List Elem) : linesK k (l++m) = linesK k l++linesK k m:=by simp [linesK]
theorem earn_perm (ws:List WageT) (l:List Elem) : (earnL ws l).Perm (linesK 1 (l.filter (earnB ws))++linesK 2 (l.filter fun x=>!earnB ws x)):=by
 induction l with
 | nil=>exact List.Perm.refl _
 | cons x l ih =>
  rw [show x :: l = [x]++l from rfl,earnL_append,List.filter_append,List.filter_append,linesK_append,linesK_append]
  cases hx:earnB ws x with
  | true =>
   rw [show [x].filter (earnB ws) = [x] by simp [hx],show ([x].filter fun x=>!earnB ws x) = [] by simp [hx]]
   have e:earnL ws [x] = linesK 1 [x]:=by
    unfold earnL linesK
    refine List.map_congr_left fun y hy=>?_
    obtain rfl:y = x:=by simpa using mem_flt hy
    rw [kindP,if_pos hx]
   rw [e,List.append_assoc]
   exact List.Perm.append_left _ ih
  | false =>
   rw [show [x].filter (earnB ws) = [] by simp [hx],show ([x].filter fun x=>!earnB ws x) = [x] by simp [hx]]
   have e:earnL ws [x] = linesK 2 [x]:=by
    unfold earnL linesK
    refine List.map_congr_left fun y hy=>?_
    obtain rfl:y = x:=by simpa using mem_flt hy
    rw [kindP,if_neg (by simp [hx])]
   rw [e,show linesK 1 []++linesK 1 (l.filter (earnB ws)) = linesK 1 (l.filter (earnB ws)) from rfl]
   refine (List.Perm.append_left _ ih).trans ?_
   rw [← List.append_assoc,← List.append_assoc]
   exact List.Perm.append_right _ List.perm_append_comm
namespace NetIn
variable (I:NetIn)
def levyL (l:List SchT) : List LineT:=l.flatMap fun s=>linesK 4 [⟨s.code,(I.levyOf s).employee⟩]++linesK 5 [⟨s.code,(I.levyOf s).employer⟩]
theorem levy_perm (l:List SchT) : (I.levyL l).Perm (linesK 4 (I.ownTo l)++linesK 5 (I.emplTo l)):=by
 induction l with
 | nil=>exact List.Perm.refl _
 | cons s l ih =>
  rw [show I.ownTo (s :: l) = [⟨s.code,(I.levyOf s).employee⟩]++I.ownTo l from rfl,show I.emplTo (s :: l) = [⟨s.code,(I.levyOf s).employer⟩]++I.emplTo l from rfl,linesK_append,linesK_append]
  unfold levyL at ih ⊢
  rw [List.flatMap_cons,List.append_assoc,List.append_assoc]
  refine List.Perm.append_left _ ?_
  refine (List.Perm.append_left _ ih).trans ?_
  rw [← List.append_assoc,← List.append_assoc]
  exact List.Perm.append_right _ List.perm_append_comm
def made : List LineT:=earnL I.r.wages I.merged++linesK 3 I.before++I.levyL I.r.schemes++linesK 6 [⟨⟨#[]⟩,I.tax⟩]++linesK 7 I.attached++linesK 8 I.after++(if 0 < I.left5 then linesK 9 [⟨⟨#[]⟩,I.left5⟩] else linesK 10 [⟨⟨#[]⟩,-I.left5⟩])
theorem made_perm : I.made.Perm I.lines:=by
 unfold made lines earn bene
 have h1:=earn_perm I.r.wages I.merged
 have h2:=I.levy_perm I.r.schemes
 have h3:(if 0 < I.left5 then linesK 9 [⟨⟨#[]⟩,I.left5⟩] else linesK 10 [⟨⟨#[]⟩,-I.left5⟩]) = linesK 9 [⟨⟨#[]⟩,max I.left5 0⟩]++linesK 10 [⟨⟨#[]⟩,max (-I.left5) 0⟩]:=by
  split
  ·
   rename_i h
   rw [show max I.left5 0 = I.left5 by omega,show max (-I.left5) 0 = 0 by omega]
   simp [linesK,nz]
  ·
   rename_i h
   rw [show max I.left5 0 = 0 by omega,show max (-I.left5) 0 = -I.left5 by omega]
   simp [linesK,nz]
 rw [h3]
 have e:=((((((h1.append_right (linesK 3 I.before)).append h2).append_right (linesK 6 [⟨⟨#[]⟩,I.tax⟩])).append_right (linesK 7 I.attached)).append_right (linesK 8 I.after)).append_right (linesK 9 [⟨⟨#[]⟩,max I.left5 0⟩]++linesK 10 [⟨⟨#[]⟩,max (-I.left5) 0⟩]))
 simpa only [List.append_assoc] using e
end NetIn
theorem sorted_perm {l ys : List LineT} (hl:RL.Sorted l) (hp:ys.Perm l) (hs:ys.Pairwise (fun a b=>lessL b a = false)) : ys = l:=by
 refine hp.eq_of_pairwise (le:=fun a b=>lessL b a = false) ?_ hs (hl.imp fun {a b} h=>?_)
 ·
  intro a b ha hb h1 h2
  have ha':=hp.mem_iff.1 ha
  rcases List.mem_iff_getElem.1 ha' with ⟨i,hi,rfl⟩
  rcases List.mem_iff_getElem.1 hb with ⟨j,hj,rfl⟩
  rcases Nat.lt_trichotomy i j with h | h | h
  ·
   have:=List.pairwise_iff_getElem.1 hl i j hi hj h
   have h3:lessL l[i] l[j] = true:=this
   rw [h2] at h3; cases h3
  ·
   subst h; rfl
  ·
   have:=List.pairwise_iff_getElem.1 hl j i hj hi h
   have h3:lessL l[j] l[i] = true:=this
   rw [h1] at h3; cases h3
 ·
  have h':lessL a b = true:=h
  cases e:lessL b a with
  | false=>rfl
  | true=>have:=RL_law.trans _ _ _ h' e; rw [RL_law.irrefl] at this; cases this
end Go.Proofs.YtlhkojcmcmkmaaaGreat
namespace Go.Proofs.YtlhkojcmcmkmaaaGreat
open Go.RowKit
theorem ded_size {l:List DedT} (h:validD l = true) : l.length≤16∧∀ x ∈ l,x.code.size≤maxLen:=⟨(validD_iff.1 h).1,fun x hx=>name_max ((validD_iff.1 h).2.1 x hx).name⟩
theorem rec_size {l:List Elem} (h:recB l = true) : l.length≤128∧∀ x ∈ l,x.code.size≤maxLen:=by
 obtain ⟨h1,h2,_⟩:=recB_iff.1 h
 exact ⟨h1,fun x hx=>name_max (h2 x hx).1⟩
def chkE (periods count : Int) : Int:=if count≤periods then 3 else 0
end Go.Proofs.YtlhkojcmcmkmaaaGreat
