/- Joined texts: MapK BalP Elem Put PlainE. Conditions: as stated. -/
import Derived.WideKeyEntry
import Derived.Maps.RangeWalk
import Derived.Maps.OwnOps
import Derived.Maps.Ext
import Derived.Sort.KeysCollected
import Derived.Test.YtjncpgbhokjbfaaGreatJ01
import Derived.Test.YtjncpgbhokjbfaaGreatJ02
namespace Go.Proofs.YtjncpgbhokjbfaaGreat
open Go.RowKit Go.Maps Go.WideMaps Go.WideElems Go.ChangeMaps
abbrev i64L (n:Int) : DataW Unit:=.lit (.int .i64 n)
theorem setBlock_twice (w:World) (b:Nat) (o o' : Obj) : setBlock (setBlock w b o) b o' = setBlock w b o':=by
 unfold setBlock
 simp
theorem mod_same {es:Array MapEntry} {j:Nat} {e0:MapEntry} {key:Value} (hj:es[j]? = some e0) (h3:e0.key = key) : es.modify j (fun e'=>{ e' with key:=key,val:=e0.val }) = es:=by
 have h2:es.toList[j]? = some e0:=by simpa using hj
 apply Array.ext'
 rw [Array.toList_modify,modify_eq_set _ _ _ _ h2]
 have:({ e0 with key:=key,val:=e0.val } : MapEntry) = e0:=by rw [← h3]
 rw [this]
 exact set_self _ _ _ h2
section
variable {P:Program} {t k e:TypeId} {w:World} {b n:Nat} {D:DataW Unit}
theorem entry_own (K:KeyLaw P k) (ht:P.underlying t = some (.map k e)) (he:P.underlying e = some (.int .i64)) (hz : ∀ u : World,(zeroValue e).run P u = .ok (.int .i64 0) u)
  (hown:w.ownsMap P k (plainElem (H:=Unit) P e) b n D) (hn:n < maxLen) (hD:IsMap D) {key:Value} {kl:Lit} (hkey:keyOf P k key = some kl) :
  ∃ (c:Int) (st:Nat) (w1:World),(Instr.lookup t (.map (some b)) key false).run P w = .ok (.int .i64 c) w∧D.atKey kl (i64L 0) = i64L c∧(Lit.int .i64 c).wf = true ∧
   (Instr.mapEntry t (.map (some b)) key).run P w = .ok (.tuple #[.int .i64 c,.int .i64 st]) w1∧(Instr.lookup t (.map (some b)) key false).run P w1 = .ok (.int .i64 c) w1∧w.grownBy w1 (some b) ∧
   ∀ x:Int,(Lit.int .i64 x).wf = true→∃ w2,(Instr.entryStore t (.map (some b)) (.int .i64 st) (.int .i64 x)).run P w1 = .ok () w2∧w2.ownsMap P k (plainElem (H:=Unit) P e) b (n+1) (D.put kl (i64L x))∧w.grownBy w2 (some b):=by
 have KK:=Keyed.of_law K
 obtain ⟨c,hlk,hat,hwc⟩:=hown.lookup_int KK ht he (hz w) hkey
 have hown':=hown
 obtain ⟨es,clock,hb,F,hs,hDD⟩:=hown
 obtain ⟨v0,st,es1,clock1,hme,_,hst⟩:=entry_then_store K ht hz hb F hkey
 -- the entry's value is the look-up's,and the entry alone is the update by it
 have hv:v0 = .int .i64 c∧(Instr.mapUpdate t (.map (some b)) key v0).run P w = .ok () (setBlock w b (.map es1 clock1)):=by
  rcases K.find w hkey es.toList F.keys with ⟨h1,h2⟩ | ⟨j,e0,h1,h2,h3⟩
  ·
   have hme':(Instr.mapEntry t (.map (some b)) key).run P w = .ok (.tuple #[.int .i64 0,goInt clock]) (setBlock w b (.map (es.push ⟨key,.int .i64 0,clock⟩) (clock+1))):=by
    simp [Instr.mapEntry,run_underlying ht,MapKept.run_getObj_map hb,K.check w false hkey,h1,hz,MapKept.run_setObj_map _ hb,Result.andThen,setBlock]
   have hlk':(Instr.lookup t (.map (some b)) key false).run P w = .ok (.int .i64 0) w:=by
    simp [Instr.lookup,run_underlying ht,MapKept.run_getObj_map hb,K.check,hkey,h1,hz,Result.andThen]
   have hup:(Instr.mapUpdate t (.map (some b)) key (.int .i64 0)).run P w = .ok () (setBlock w b (.map (es.push ⟨key,.int .i64 0,clock⟩) (clock+1))):=by
    simp [Instr.mapUpdate,run_underlying ht,MapKept.run_getObj_map hb,K.check w false hkey,h1,MapKept.run_setObj_map _ hb,Result.andThen,setBlock]
   rw [hlk'] at hlk
   injection hlk with hlk
   rw [hme'] at hme
   injection hme with h4 h5
   injection h4 with h4
   have h6:(#[Value.int .i64 0,goInt clock] : Array Value)[0]? = (#[v0,goInt st] : Array Value)[0]?:=by rw [h4]
   simp at h6
   rw [← h6,← h5]
   exact ⟨hlk,hup⟩
  ·
   have hj:es[j]? = some e0:=by simpa using h2
   have hsame:es.modify j (fun e=>{ e with key:=key }) = es:=by
    apply Array.ext'
    rw [Array.toList_modify,modify_eq_set _ _ _ _ h2]
    have:({ e0 with key:=key } : MapEntry) = e0:=by rw [← h3]
    rw [this]
    exact set_self _ _ _ h2
   have hme':(Instr.mapEntry t (.map (some b)) key).run P w = .ok (.tuple #[e0.val,goInt e0.born]) (setBlock w b (.map es clock)):=by
    simp [Instr.mapEntry,run_underlying ht,MapKept.run_getObj_map hb,K.check w false hkey,h1,hj,h3,K.stays w hkey,hsame,MapKept.run_setObj_map _ hb,Result.andThen,setBlock]
   have hlk':(Instr.lookup t (.map (some b)) key false).run P w = .ok e0.val w:=by
    simp [Instr.lookup,run_underlying ht,MapKept.run_getObj_map hb,K.check,hkey,h1,Result.andThen]
   have hup:(Instr.mapUpdate t (.map (some b)) key e0.val).run P w = .ok () (setBlock w b (.map es clock)):=by
    simp [Instr.mapUpdate,run_underlying ht,MapKept.run_getObj_map hb,K.check w false hkey,h1,hj,h3,K.stays w hkey,MapKept.run_setObj_map _ hb,Result.andThen,setBlock]
    rw [mod_same hj h3]
   rw [hlk'] at hlk
   injection hlk with hlk
   rw [hme'] at hme
   injection hme with h4 h5
   injection h4 with h4
   have h6:(#[e0.val,goInt e0.born] : Array Value)[0]? = (#[v0,goInt st] : Array Value)[0]?:=by rw [h4]
   simp at h6
   rw [← h6,← h5]
   exact ⟨hlk,hup⟩
 obtain ⟨rfl,hup⟩:=hv
 obtain ⟨w1',hrun1,hown1,hg1⟩:=hown'.update KK ht hn hkey (plainElem_int he hwc)
 rw [hup] at hrun1
 injection hrun1 with _ hrun1
 subst hrun1
 obtain ⟨c1,hlk1,hat1,_⟩:=hown1.lookup_int KK ht he (hz _) hkey
 rw [atKey_put_same hD (KK.key hkey)] at hat1
 injection hat1 with hat1
 injection hat1 with _ hat1
 subst hat1
 refine ⟨c,st,_,hlk,hat,hwc,hme,hlk1,hg1,fun x hx=>?_⟩
 obtain ⟨es',clock',hes,hup2⟩:=hst (setBlock w b (.map es1 clock1)) (.int .i64 x) (heap_setBlock_same hb _)
 rw [setBlock_twice] at hes
 obtain ⟨w2',hrun2,hown2,hg2⟩:=hown'.update KK ht hn hkey (plainElem_int he hx)
 rw [hup2] at hrun2
 injection hrun2 with _ hrun2
 subst hrun2
 exact ⟨_,hes,hown2,hg2⟩
end
structure MapG {κ:Type} (L:κ→Lit) (G:κ→Prop) (D:DataW Unit) (K:κ→Bool) (T:κ→Int) : Prop where
 isMap:IsMap D
 has:∀ c,G c→Maps.has D (L c) = K c
 at_:∀ c,G c→D.atKey (L c) (i64L 0) = i64L (T c)
structure KeyG {κ:Type} (L:κ→Lit) (G:κ→Prop) : Prop where
 lit:∀ c,G c→WideAt.IsKeyLit (L c)
 inj:∀ c d,G c→G d→L c = L d→c = d
section
variable {κ:Type} [DecidableEq κ] {L:κ→Lit} {G:κ→Prop} {D:DataW Unit} {K K':κ→Bool} {T T':κ→Int}
end
section
variable {κ:Type} {L:κ→Lit} {G:κ→Prop} {D:DataW Unit} {K K':κ→Bool} {T T':κ→Int} {α:Type} {R:Rec α κ} {p:Int→Bool}
theorem MapG.empty : MapG L G (.map []) (fun _=>false) (fun _=>0):=⟨isMap_empty,fun _ _=>rfl,fun _ _=>rfl⟩
end
section
variable {κ:Type} [DecidableEq κ] {L:κ→Lit} {G:κ→Prop} {D:DataW Unit} {K K':κ→Bool} {T T':κ→Int} {α:Type} {R:Rec α κ} {p:Int→Bool}
theorem MapG.put_ (hL:KeyG L G) (h:MapG L G D K T) (s:κ) (hs:G s) (n:Int) (hK : ∀ c,K' c = (K c || decide (s = c))) (hT : ∀ c,T' c = if s = c then n else T c) : MapG L G (D.put (L s) (i64L n)) K' T':=by
 refine ⟨h.isMap.put _ _,fun c hc=>?_,fun c hc=>?_⟩
 ·
  by_cases e:s = c
  ·
   subst e
   rw [has_put_same h.isMap (hL.lit s hs),hK]; simp
  ·
   rw [has_put_other (fun e'=>e (hL.inj _ _ hs hc e'.symm)),h.has c hc,hK]; simp [e]
 ·
  by_cases e:s = c
  ·
   subst e
   rw [atKey_put_same h.isMap (hL.lit s hs),hT]; simp
  ·
   rw [atKey_put_other (fun e'=>e (hL.inj _ _ hs hc e'.symm)),h.at_ c hc,hT]; simp [e]
structure ColG {α:Type} (R:Rec α κ) (L:κ→Lit) (G:κ→Prop) (p:Int→Bool) (K:κ→Bool) (T:κ→Int) (left:Lit→Bool) (ys:List α) : Prop where
 sound:∀ x ∈ ys,G (R.key x)∧K (R.key x) = true∧R.amt x = T (R.key x)∧R.amt x ≠ 0∧left (L (R.key x)) = false
 full:∀ c,G c→K c = true→left (L c) = false→p (T c) = true∧(T c ≠ 0→∃ x ∈ ys,R.key x = c)
 nodup:ys.Pairwise (fun a b=>R.key a ≠ R.key b)
variable {α:Type} {R:Rec α κ} {p:Int→Bool}
end
section
variable {κ:Type} {L:κ→Lit} {G:κ→Prop} {D:DataW Unit} {K K':κ→Bool} {T T':κ→Int} {α:Type} {R:Rec α κ} {p:Int→Bool}
theorem ColG.start (h:MapG L G D K T) : ColG R L G p K T (Maps.has D) [] :=
 ⟨by simp,(fun c hg hc hl=>by rw [h.has c hg,hc] at hl; cases hl),List.Pairwise.nil⟩
end
section
variable {κ:Type} [DecidableEq κ] {L:κ→Lit} {G:κ→Prop} {D:DataW Unit} {K K':κ→Bool} {T T':κ→Int} {α:Type} {R:Rec α κ} {p:Int→Bool}
theorem ColG.step (hL:KeyG L G) {left:Lit→Bool} {ys:List α} (h:ColG R L G p K T left ys) {s:κ} {c:Int} (hs:G s) (hl:left (L s) = true) (hK:K s = true) (hT:T s = c) (ha:p c = true) :
  (∀ x,R.key x = s→R.amt x = c→c ≠ 0→ColG R L G p K T (fun z=>left z && !z.sameKey (L s)) (ys++[x]))∧(c = 0→ColG R L G p K T (fun z=>left z && !z.sameKey (L s)) ys):=by
 have hself:(L s).sameKey (L s) = true:=WideAt.sameKey_self (hL.lit s hs)
 have hsound:∀ x ∈ ys,G (R.key x)∧K (R.key x) = true∧R.amt x = T (R.key x)∧R.amt x ≠ 0∧(left (L (R.key x)) && !(L (R.key x)).sameKey (L s)) = false:=by
  intro x hx
  obtain ⟨h0,h1,h2,h3,h4⟩:=h.sound x hx
  exact ⟨h0,h1,h2,h3,by simp [h4]⟩
 have hfull:∀ d,G d→K d = true→(left (L d) && !(L d).sameKey (L s)) = false→(p (T d) = true∧(T d ≠ 0→d ≠ s→∃ x ∈ ys,R.key x = d)):=by
  intro d hg hd hld
  by_cases e:d = s
  ·
   subst e
   exact ⟨by rw [hT]; exact ha,fun _ h=>absurd rfl h⟩
  ·
   have hne:(L d).sameKey (L s) = false:=sameKey_ne (fun e'=>e (hL.inj _ _ hg hs e'))
   rw [hne] at hld
   simp at hld
   obtain ⟨g1,g2⟩:=h.full d hg hd hld
   exact ⟨g1,fun h0 _=>g2 h0⟩
 refine ⟨fun y hy1 hy2 hc=>⟨fun x hx=>?_,fun d hg hd hld=>?_,?_⟩,fun hc=>⟨hsound,fun d hg hd hld=>?_,h.nodup⟩⟩
 ·
  rcases List.mem_append.1 hx with h1 | h1
  ·
   exact hsound x h1
  ·
   simp at h1
   subst h1
   rw [hy1,hy2]
   exact ⟨hs,hK,hT.symm,hc,by rw [hself]; simp⟩
 ·
  obtain ⟨g1,g2⟩:=hfull d hg hd hld
  refine ⟨g1,fun h0=>?_⟩
  by_cases e:d = s
  ·
   exact ⟨y,by simp,by rw [hy1,e]⟩
  ·
   obtain ⟨x,hx,hxe⟩:=g2 h0 e
   exact ⟨x,by simp [hx],hxe⟩
 ·
  rw [List.pairwise_append]
  refine ⟨h.nodup,List.pairwise_singleton _ _,fun a ha' b hb=>?_⟩
  simp at hb
  subst hb
  intro e
  have:=(h.sound a ha').2.2.2.2
  rw [e,hy1,hl] at this
  cases this
 ·
  obtain ⟨g1,g2⟩:=hfull d hg hd hld
  refine ⟨g1,fun h0=>?_⟩
  by_cases e:d = s
  ·
   subst e; rw [hT] at h0; exact absurd hc h0
  ·
   exact g2 h0 e
end
section
variable {κ:Type} {L:κ→Lit} {G:κ→Prop} {D:DataW Unit} {K K':κ→Bool} {T T':κ→Int} {α:Type} {R:Rec α κ} {p:Int→Bool}
theorem ColG.done (hLaw:R.Law) {left:Lit→Bool} {ys zs : List α} (h:ColG R L G p K T left ys) (hl : ∀ z,left z = false) (hKG : ∀ c,K c = true→G c) (hp:zs.Perm ys) (hsd:zs.Pairwise (fun a b=>R.lt (R.key b) (R.key a) = false)) :
  (∀ c,K c = true→p (T c) = true)∧R.Sorted zs∧∀ x:α,x ∈ zs ↔ (K (R.key x) = true∧R.amt x = T (R.key x)∧R.amt x ≠ 0):=by
 refine ⟨fun c hc=>(h.full c (hKG c hc) hc (hl _)).1,?_,fun x=>?_⟩
 ·
  have h2:zs.Pairwise (fun a b=>R.key a ≠ R.key b):=h.nodup.perm hp.symm (fun h e=>h e.symm)
  refine (hsd.and h2).imp ?_
  rintro a b ⟨h3,h4⟩
  cases hh:R.lt (R.key a) (R.key b)
  ·
   exact absurd (hLaw.total _ _ hh h3) h4
  ·
   rfl
 ·
  rw [hp.mem_iff]
  refine ⟨fun hx=>?_,fun ⟨h1,h2,h3⟩=>?_⟩
  ·
   obtain ⟨_,g1,g2,g3,_⟩:=h.sound x hx
   exact ⟨g1,g2,g3⟩
  ·
   obtain ⟨y,hy,hye⟩:=(h.full _ (hKG _ h1) h1 (hl _)).2 (by rw [← h2]; exact h3)
   obtain ⟨_,_,g2,_⟩:=h.sound y hy
   have:y = x:=hLaw.ext _ _ hye (by rw [g2,hye,h2])
   rw [← this]; exact hy
end
theorem length_insert1 (x:Lit × DataW Unit) : ∀ l,(DataW.insert x l).length = l.length+1
 | []=>rfl
 | y :: l=>by
  rw [DataW.insert]
  split
  ·
   rfl
  ·
   simp [length_insert1 x l]
theorem length_insertAll (l:List (Lit × DataW Unit)) : (l.foldr DataW.insert []).length = l.length:=by
 induction l with
 | nil=>rfl
 | cons a l ih=>rw [List.foldr_cons,length_insert1,ih]; rfl
theorem wf64 {n:Int} (h1 : -9223372036854775808≤n) (h2:n≤9223372036854775807) : (Lit.int .i64 n).wf = true:=by
 simp [Lit.wf,IntKind.min,IntKind.max,IntKind.signed,IntKind.bits]; omega
end Go.Proofs.YtjncpgbhokjbfaaGreat
namespace Go.Proofs.YtjncpgbhokjbfaaGreat
open Go.RowKit
theorem balL_no {m:List BookT} {x:BookT} (hx:x ∈ m) (h:runTot m x.run ≠ 0) : balL m = false:=by
 rw [balL,List.all_eq_false]
 exact ⟨x,hx,by simpa using h⟩
theorem balL_yes {m:List BookT} (h : ∀ x ∈ m,runTot m x.run = 0) : balL m = true:=by
 rw [balL,List.all_eq_true]
 intro x hx
 simpa using h x hx
end Go.Proofs.YtjncpgbhokjbfaaGreat
namespace Go.Proofs.YtjncpgbhokjbfaaGreat
open Go.RowKit
end Go.Proofs.YtjncpgbhokjbfaaGreat
namespace Go.Proofs.YtjncpgbhokjbfaaGreat
open Go.RowKit
def lessE (x y : Elem) : Bool:=Op.bytesLess x.code.toList y.code.toList
def put (xs:List Elem) (e:Elem) : List Elem :=
 match xs with
 | []=>[e]
 | x :: r=>if lessE x e then x :: put r e else if x.code.toList == e.code.toList then ⟨e.code,e.amount+x.amount⟩ :: r else e :: x :: r
theorem put_skip (e:Elem) : ∀ (xs:List Elem) (k:Nat),k≤xs.length→(∀ j,(h:j < xs.length)→j < k→lessE xs[j] e = true)→put xs e = xs.take k++put (xs.drop k) e:=by
 intro xs
 induction xs with
 | nil=>intro k hk _; simp
 | cons x r ih =>
  intro k hk h
  cases k with
  | zero=>simp
  | succ k =>
   have h0:=h 0 (by simp) (by omega)
   simp at h0
   rw [put,if_pos h0,List.take_succ_cons,List.drop_succ_cons,List.cons_append]
   rw [← ih k (by simp at hk; omega) (fun j hj hjk=>by have:=h (j+1) (by simp; omega) (by omega); simpa using this)]
theorem put_eq {xs:List Elem} {e:Elem} {k:Nat} (hk:k < xs.length) (h : ∀ j,(h:j < xs.length)→j < k→lessE xs[j] e = true) (h1:lessE xs[k] e = false) (h2 : (xs[k].code.toList == e.code.toList) = true) :
  put xs e = xs.take k++[⟨e.code,e.amount+xs[k].amount⟩]++xs.drop (k+1):=by
 rw [put_skip e xs k (by omega) h,List.drop_eq_getElem_cons hk,put,h1,h2]
 simp
theorem put_ne {xs:List Elem} {e:Elem} {k:Nat} (hk:k < xs.length) (h : ∀ j,(h:j < xs.length)→j < k→lessE xs[j] e = true) (h1:lessE xs[k] e = false) (h2 : (xs[k].code.toList == e.code.toList) = false) :
  put xs e = xs.take k++[e]++xs.drop k:=by
 rw [put_skip e xs k (by omega) h,List.drop_eq_getElem_cons hk,put,h1,h2]
 simp
theorem put_end {xs:List Elem} {e:Elem} (h : ∀ j,(h:j < xs.length)→lessE xs[j] e = true) : put xs e = xs.take xs.length++[e]++xs.drop xs.length:=by
 rw [put_skip e xs xs.length (Nat.le_refl _) (fun j hj _=>h j hj)]
 simp [put]
set_option maxHeartbeats 2000000 in
theorem put_any (A:Option Addr) (cap:Nat) (xs:List Elem) (e:Elem) (w:World) (h:SliceOf encE 2 w w.heap.size A xs) (hc:xs.length≤cap) (hcm:cap≤maxLen) (hl:xs.length≤1000000)
  (hx:∀ x ∈ xs,-1000000000000000≤x.amount∧x.amount≤1000000000000000) (he1 : -1000000000000000≤e.amount) (he2:e.amount≤1000000000000000) :
  Calls Tryz.prog 96 #[.slice A xs.length cap,.agg #[.string e.code,.int .i64 e.amount]] w fun r w'=>∃ v,r = .returned v∧Own encE 2 109 w' w.heap.size v (put xs e)∧Below w.heap.size w w':=by
 have HX:=Lib.hid hx; clear hx
 have hcm':cap≤9223372036854775807:=hcm
 clear hcm
 go_enter Tryz.func96,Tryz.ntmps96
 go_wp2
 go_loopw [5,6] (fun v i wr=>∃ k:Nat,k≤xs.length∧i = .int .i64 k∧Hid (∀ j,(hj:j < xs.length)→j < k→lessE xs[j] e = true)∧Own encE 2 109 wr (w.heap.size+1) v (xs.take k)∧Blk wr w.heap.size 109 #[.string e.code,.int .i64 e.amount]∧Below w.heap.size w wr) (fun _ i _=>xs.length - (intOf i).toNat)
 case atStart=>exact ⟨0,by omega,rfl,fun j _ hj=>absurd hj (by omega),by simpa using Own.nil_ _ _,Blk.new _ _ _,(Below.refl _ _).alloc (Nat.le_refl _) _⟩
 case round =>
  obtain ⟨k,hk,rfl,hall,hown,hblk,hbel⟩:=hrel
  have e0:=hblk.cell 0
  have e1:=hblk.cell 1
  have f1:=hblk.frozen 1
  have hsz:=hblk.lt
  simp only [nqg,nqh,nqi] at e0 e1
  by_cases hlt:k < xs.length
  ·
   obtain ⟨b,off,hA,hb,hcell⟩:=(h.below hbel).at_ hlt
   have c0:=hcell 0 _ rfl
   have c1:=hcell 1 _ rfl
   simp only [Nat.add_zero] at c0
   clear hcell
   by_cases hls:Op.bytesLess xs[k].code.toList e.code.toList = true
   ·
    subst hA
    have HLS:=Lib.hid hls
    go_wp2
    go_quiet (fail)
    go_wp2_with (at_builtin; (refine wpList_append_one _ _ 79 ⟨xs[k].code,xs[k].amount⟩ _ 24 _ infoE Tryz.underlying79 (hown.drewN nq) encE_len (by omega) rfl (encE_one _) (by simp; omega) (by omega) (by simp; omega) (by rfl) (by rfl) (by rfl) (by rfl) (by simp) (by rfl) ?_); intro v2 w6 hown6 hg6)
    go_roundw
    case rel =>
     have hr:=fun g hg=>(hown.block_lt (g:=g) hg).1
     refine ⟨k+1,by omega,by go_num,fun j hj hjk=>?_,?_,(hblk.drewN nq).grown hg6 (fun e=>by have:=hr _ e.symm; omega),(below_drewN hbel nq).grown hg6 (by simp; omega) (fun g hg=>by have:=hr g hg; omega)⟩
     ·
      rcases Nat.lt_or_ge j k with h1 | h1
      ·
       exact hall.out j hj h1
      ·
       obtain rfl:j = k:=by omega
       exact HLS.out
     ·
      rw [List.take_succ_eq_append_getElem hlt]
      exact hown6
    case measure=>simp [intOf]; omega
   ·
    have hls':Op.bytesLess xs[k].code.toList e.code.toList = false:=by simpa using hls
    clear hls
    by_cases heq:(xs[k].code.toList == e.code.toList) = true
    ·
     subst hA
     have HP:=Lib.hid (put_eq hlt hall.out hls' heq)
     have hxk:=HX.out _ (List.getElem_mem hlt)
     obtain ⟨hx1,hx2⟩:=hxk
     go_wp2
     go_quiet (fail)
     go_wp2
     go_quiet (fail)
     go_wp2
     go_region
     generalize hW:World.setCell (World.drewN wr _) _ _ = W
     have hBW:Blk W w.heap.size 109 #[.string e.code,.int .i64 (e.amount+xs[k].amount)]:=by
      rw [← hW]; simpa using (hblk.drewN _).set_ 1 (.int .i64 (e.amount+xs[k].amount))
     have hownW:Own encE 2 109 W (w.heap.size+1) u5 (xs.take k):=by
      rw [← hW]; exact (hown.drewN _).setCell (p:=⟨w.heap.size,1,none⟩) (fun g hg=>by have:=(hown.block_lt hg).1; show g ≠ w.heap.size; omega) _
     have hbelW:Below w.heap.size w W:=by rw [← hW]; exact below_put (below_drewN hbel _) (Nat.le_refl _) 1 _
     clear hW
     have hsW:=hBW.lt
     have a0:=hBW.cell 0
     have a1:=hBW.cell 1
     simp only [nqg,nqh,nqi] at a0 a1
     have hr:=fun g hg=>(hownW.block_lt (g:=g) hg).1
     have HS:=Lib.hid h
     have hk1:((k:Int)+1)≤(cap:Int):=by omega
     clear c0 c1 e0 e1 f1 hblk hown hbel h
     go_upto_region 10 with (at_builtin; (refine wpList_append_one _ _ 79 ⟨e.code,e.amount+xs[k].amount⟩ _ 24 _ infoE Tryz.underlying79 hownW encE_len (by omega) rfl (encE_one _) (by simp; omega) (by omega) (by omega) (by rfl) (by rfl) (by rfl) (by rfl) (by simp) (by rfl) ?_); intro v2 w6 hown6 hg6)
     have hbelW6:Below w.heap.size w w6:=hbelW.grown hg6 (by omega) (fun g hg=>by have:=hr g hg; omega)
     have hs6:w.heap.size+1≤w6.heap.size:=by have:=hg6.size; omega
     have hr6:=fun g hg=>(hown6.block_lt (g:=g) hg).1
     rcases Nat.lt_or_ge (k+1) cap with hcap | hcap
     ·
      have hcut:=(HS.out.below hbelW6).cut (i:=k+1) (cap:=cap) (by omega) (by omega)
      rw [if_neg (by omega)] at hcut
      simp only [Option.map_some,Addr.add,show ¬ (k+1) * 2 = 0 by omega,if_false] at hcut
      go_wp2_with (at_builtin; (refine wpList_append_list (ys:=xs.drop (k+1)) _ _ 79 _ 24 _ infoE Tryz.underlying79 hown6 hcut encE_len (by omega) rfl encE_one (by simp; omega) (by omega) hs6 (by rfl) (by rfl) (by rfl) (by rfl) (by simp) ?_); intro v3 w7 hown7 hg7)
      go_ret
      refine ⟨v3,rfl,?_,hbelW6.grown hg7 (by omega) (fun g hg=>by have:=hr6 g hg; omega)⟩
      rw [HP.out]
      exact hown7.weaken (by omega)
     ·
      have hnil:xs.drop (k+1) = []:=List.drop_eq_nil_of_le (by omega)
      have HN:=Lib.hid hnil
      clear hnil
      obtain rfl:cap = k+1:=by omega
      go_wp2_with (at_builtin; (refine wpList_append_list (B:=0) (ys:=[]) _ _ 79 _ 24 _ infoE Tryz.underlying79 hown6 SliceOf.nil_ encE_len (by omega) rfl encE_one (by simp <;> omega) (by omega) hs6 (by rfl) (by rfl) (by rfl) (by rfl) (by simp <;> omega) ?_); intro v3 w7 hown7 hg7)
      go_ret
      refine ⟨v3,rfl,?_,hbelW6.grown hg7 (by omega) (fun g hg=>by have:=hr6 g hg; omega)⟩
      rw [HP.out,HN.out]
      exact hown7.weaken (by omega)
    ·
     have heq':(xs[k].code.toList == e.code.toList) = false:=by simpa using heq
     clear heq
     subst hA
     have HP:=Lib.hid (put_ne hlt hall.out hls' heq')
     go_wp2
     go_quiet (fail)
     go_wp2
     go_quiet (fail)
     go_upto_region 10 with (at_builtin; (refine wpList_append_one _ _ 79 e _ 24 _ infoE Tryz.underlying79 (hown.drewN _) encE_len (by omega) rfl (encE_one _) (by simp; omega) (by omega) (by simp; omega) (by rfl) (by rfl) (by rfl) (by rfl) (by simp) (by rfl) ?_); intro v2 w6 hown6 hg6)
     have hr:=fun g hg=>(hown.block_lt (g:=g) hg).1
     have hs6:w.heap.size+1≤w6.heap.size:=by have:=hg6.size; simp at this; omega
     have hbelW6:Below w.heap.size w w6:=(below_drewN hbel _).grown hg6 (by simp; omega) (fun g hg=>by have:=hr g hg; omega)
     have hr6:=fun g hg=>(hown6.block_lt (g:=g) hg).1
     have hcut:=(h.below hbelW6).cut (i:=k) (cap:=cap) (by omega) (by omega)
     rw [if_neg (by omega)] at hcut
     have hadd:(⟨b,off,none⟩ : Addr).add (k * 2) = ⟨b,off+k * 2,none⟩:=by unfold Addr.add; split <;> simp_all
     simp only [Option.map_some,hadd] at hcut
     have hkc:¬ cap = k:=by omega
     clear c0 c1 e0 e1 f1 hblk hown hbel h hadd
     go_wp2_with (at_builtin; (refine wpList_append_list (ys:=xs.drop k) _ _ 79 _ 24 _ infoE Tryz.underlying79 hown6 hcut encE_len (by omega) rfl encE_one (by simp; omega) (by omega) hs6 (by rfl) (by rfl) (by rfl) (by rfl) (by simp) ?_); intro v3 w7 hown7 hg7)
     go_ret
     refine ⟨v3,rfl,?_,hbelW6.grown hg7 (by omega) (fun g hg=>by have:=hr6 g hg; omega)⟩
     rw [HP.out]
     exact hown7.weaken (by omega)
  ·
   have HP:=Lib.hid (put_end (xs:=xs) (e:=e) (fun j hj=>hall.out j hj (by omega)))
   obtain rfl:k = xs.length:=by omega
   have hg0:decide ((xs.length:Int) < (xs.length:Int)) = false:=by simp
   have hg1:decide (xs.length < xs.length) = false:=by simp
   go_wp2
   go_quiet (fail)
   go_wp2
   go_quiet (fail)
   go_upto_region 10 with (at_builtin; (refine wpList_append_one _ _ 79 e _ 24 _ infoE Tryz.underlying79 (hown.drewN _) encE_len (by omega) rfl (encE_one _) (by simp; omega) (by omega) (by simp; omega) (by rfl) (by rfl) (by rfl) (by rfl) (by simp) (by rfl) ?_); intro v2 w6 hown6 hg6)
   have hr:=fun g hg=>(hown.block_lt (g:=g) hg).1
   have hs6:w.heap.size+1≤w6.heap.size:=by have:=hg6.size; simp at this; omega
   have hbelW6:Below w.heap.size w w6:=(below_drewN hbel _).grown hg6 (by simp; omega) (fun g hg=>by have:=hr g hg; omega)
   have hr6:=fun g hg=>(hown6.block_lt (g:=g) hg).1
   clear e0 e1 f1 hblk hown hbel h
   go_wp2_with (at_builtin; (refine wpList_append_list (B:=0) (ys:=[]) _ _ 79 _ 24 _ infoE Tryz.underlying79 hown6 SliceOf.nil_ encE_len (by omega) rfl encE_one (by simp <;> omega) (by omega) hs6 (by rfl) (by rfl) (by rfl) (by rfl) (by simp) ?_); intro v3 w7 hown7 hg7)
   all_goals
    go_ret
    refine ⟨v3,rfl,?_,hbelW6.grown hg7 (by omega) (fun g hg=>by have:=hr6 g hg; omega)⟩
    rw [HP.out]
    simpa using hown7.weaken (by omega)
end Go.Proofs.YtjncpgbhokjbfaaGreat
namespace Go.Proofs.YtjncpgbhokjbfaaGreat
open Go.RowKit
def sumsP (l:List Elem) : List Elem:=l.foldl put []
def nz (x:Elem) : Bool:=x.amount != 0
theorem sumsP_snoc (l:List Elem) (x:Elem) : sumsP (l++[x]) = put (sumsP l) x:=by simp [sumsP,List.foldl_append]
def Bdd (B:Int) (l:List Elem) : Prop:=∀ x ∈ l,-B≤x.amount∧x.amount≤B
theorem Bdd.put {B C : Int} {l:List Elem} {e:Elem} (h:Bdd B l) (hB:0≤B) (hC:0≤C) (h1 : -C≤e.amount) (h2:e.amount≤C) : Bdd (B+C) (put l e):=by
 induction l with
 | nil=>intro x hx; simp [Go.Proofs.YtjncpgbhokjbfaaGreat.put] at hx; subst hx; omega
 | cons a l ih =>
  have ha:=h a (by simp)
  have hl:Bdd B l:=fun x hx=>h x (by simp [hx])
  intro x hx
  rw [Go.Proofs.YtjncpgbhokjbfaaGreat.put] at hx
  split at hx
  ·
   rcases List.mem_cons.1 hx with rfl | hx
   ·
    omega
   ·
    exact ih hl x hx
  ·
   split at hx
   ·
    rcases List.mem_cons.1 hx with rfl | hx
    ·
     show -(B+C)≤e.amount+a.amount∧e.amount+a.amount≤B+C
     omega
    ·
     have:=hl x hx; omega
   ·
    rcases List.mem_cons.1 hx with rfl | hx
    ·
     omega
    ·
     have:=h x hx; omega
theorem put_length (l:List Elem) (e:Elem) : (put l e).length≤l.length+1:=by
 induction l with
 | nil=>simp [put]
 | cons a l ih =>
  rw [put]
  split
  ·
   simp; omega
  ·
   split <;> simp
theorem foldl_put_length (l:List Elem) : ∀ acc : List Elem,(l.foldl put acc).length≤acc.length+l.length:=by
 induction l with
 | nil=>intro acc; simp
 | cons a l ih=>intro acc; have h1:=ih (put acc a); have h2:=put_length acc a; simp; omega
theorem sumsP_length (l:List Elem) : (sumsP l).length≤l.length:=by
 have:=foldl_put_length l []
 simpa [sumsP] using this
theorem put_codes (l:List Elem) (e:Elem) : ∀ x ∈ put l e,x.code = e.code ∨ ∃ y ∈ l,y.code = x.code:=by
 induction l with
 | nil=>intro x hx; simp [put] at hx; subst hx; exact .inl rfl
 | cons a l ih =>
  intro x hx
  rw [put] at hx
  split at hx
  ·
   rcases List.mem_cons.1 hx with rfl | hx
   ·
    exact .inr ⟨_,by simp,rfl⟩
   ·
    rcases ih x hx with h | ⟨y,hy,h⟩
    ·
     exact .inl h
    ·
     exact .inr ⟨y,by simp [hy],h⟩
  ·
   split at hx
   ·
    rcases List.mem_cons.1 hx with rfl | hx
    ·
     exact .inl rfl
    ·
     exact .inr ⟨x,by simp [hx],rfl⟩
   ·
    rcases List.mem_cons.1 hx with rfl | hx
    ·
     exact .inl rfl
    ·
     exact .inr ⟨x,hx,rfl⟩
theorem foldl_codes (l:List Elem) : ∀ acc,∀ x ∈ l.foldl put acc,(∃ y ∈ l,y.code = x.code) ∨ ∃ y ∈ acc,y.code = x.code:=by
 induction l with
 | nil=>intro acc x hx; exact .inr ⟨x,hx,rfl⟩
 | cons a l ih =>
  intro acc x hx
  rcases ih (put acc a) x hx with ⟨y,hy,h⟩ | ⟨y,hy,h⟩
  ·
   exact .inl ⟨y,by simp [hy],h⟩
  ·
   rcases put_codes acc a y hy with h1 | ⟨z,hz,h1⟩
   ·
    exact .inl ⟨a,by simp,by rw [← h,h1]⟩
   ·
    exact .inr ⟨z,hz,by rw [h1,h]⟩
theorem sumsP_codes {l:List Elem} {x:Elem} (hx:x ∈ sumsP l) : ∃ y ∈ l,y.code = x.code:=by
 rcases foldl_codes l [] x hx with h | ⟨y,hy,_⟩
 ·
  exact h
 ·
  simp at hy
theorem sumsP_size {l:List Elem} (h : ∀ x ∈ l,x.code.size≤maxLen) (x:Elem) (hx:x ∈ sumsP l) : x.code.size≤maxLen:=by
 obtain ⟨y,hy,e⟩:=sumsP_codes hx
 rw [← e]; exact h y hy
theorem less_eq : ∀ (x y : List UInt8),Op.bytesLess x y = decide (x < y)
 | [],[]=>by simp [Op.bytesLess]
 | _ :: _,[]=>by simp [Op.bytesLess]
 | [],_ :: _=>by simp [Op.bytesLess]
 | a :: x,b :: y=>by
  rw [Op.bytesLess,less_eq x y]
  simp only [List.cons_lt_cons_iff]
  by_cases h1:a < b <;> by_cases h2:a = b <;> by_cases h3:x < y <;> simp [h1,h2,h3]
def key (c:ByteArray) : Lit:=.string c.data.toList
theorem key_inj {a b : ByteArray} (h:key a = key b) : a = b:=by
 obtain ⟨⟨l⟩⟩:=a
 obtain ⟨⟨m⟩⟩:=b
 simp [key] at h
 rw [h]
def totE : List Elem→List UInt8→Int
 | [],_=>0
 | x :: l,c=>(if x.code.data.toList = c then x.amount else 0)+totE l c
def keyE (l:List Elem) (c:List UInt8) : Bool:=l.any fun x=>decide (x.code.data.toList = c)
theorem code_ext {a b : ByteArray} (h:a.data.toList = b.data.toList) : a = b:=key_inj (by simp [key,h])
theorem lessE_iff (x y : Elem) : lessE x y = true ↔ x.code.data.toList < y.code.data.toList:=by
 rw [lessE,less_eq,ByteArray.toList_eq,ByteArray.toList_eq]; simp
theorem lessE_trans {x y z : Elem} (h1:lessE x y = true) (h2:lessE y z = true) : lessE x z = true:=by
 rw [lessE_iff] at *; exact List.lt_trans h1 h2
def SortedE (l:List Elem) : Prop:=l.Pairwise (fun a b=>lessE a b = true)
theorem totE_append (l m : List Elem) (c:List UInt8) : totE (l++m) c = totE l c+totE m c:=by
 induction l with
 | nil=>simp [totE]
 | cons a l ih=>simp [totE,ih]; omega
theorem keyE_append (l m : List Elem) (c:List UInt8) : keyE (l++m) c = (keyE l c || keyE m c):=by simp [keyE]
theorem totE_put (l:List Elem) (e:Elem) (c:List UInt8) : totE (put l e) c = totE l c+(if e.code.data.toList = c then e.amount else 0):=by
 induction l with
 | nil=>simp [put,totE]
 | cons a l ih =>
  rw [put]
  split
  ·
   simp only [totE,ih]; omega
  ·
   split
   ·
    rename_i h
    have h':a.code.data.toList = e.code.data.toList:=by
     rw [ByteArray.toList_eq,ByteArray.toList_eq] at h; simpa using h
    simp only [totE,h']
    split <;> omega
   ·
    simp only [totE]; omega
theorem keyE_put (l:List Elem) (e:Elem) (c:List UInt8) : keyE (put l e) c = (keyE l c || decide (e.code.data.toList = c)):=by
 induction l with
 | nil=>simp [put,keyE]
 | cons a l ih =>
  rw [put]
  unfold keyE at ih ⊢
  split
  ·
   simp only [List.any_cons,ih,Bool.or_assoc]
  ·
   split
   ·
    rename_i h
    have h':a.code.data.toList = e.code.data.toList:=by
     rw [ByteArray.toList_eq,ByteArray.toList_eq] at h; simpa using h
    simp only [List.any_cons,h']
    cases decide (e.code.data.toList = c) <;> simp
   ·
    simp only [List.any_cons]
    cases decide (e.code.data.toList = c) <;> simp
theorem sorted_put {l:List Elem} (h:SortedE l) (e:Elem) : SortedE (put l e):=by
 induction l with
 | nil=>simp [put,SortedE]
 | cons a l ih =>
  obtain ⟨h1,h2⟩:=List.pairwise_cons.1 h
  rw [put]
  split
  ·
   rename_i hae
   refine List.pairwise_cons.2 ⟨fun x hx=>?_,ih h2⟩
   rcases put_codes l e x hx with hc | ⟨y,hy,hc⟩
   ·
    rw [lessE_iff,hc,← lessE_iff]; exact hae
   ·
    rw [lessE_iff,← hc,← lessE_iff]; exact h1 y hy
  ·
   rename_i hae
   split
   ·
    rename_i hc
    have hc':e.code = a.code:=by
     apply code_ext
     rw [ByteArray.toList_eq,ByteArray.toList_eq] at hc
     exact (by simpa using hc:a.code.data.toList = e.code.data.toList).symm
    refine List.pairwise_cons.2 ⟨fun x hx=>?_,h2⟩
    rw [lessE_iff]
    show e.code.data.toList < _
    rw [hc',← lessE_iff]
    exact h1 x hx
   ·
    rename_i hc
    have hea:lessE e a = true:=by
     rw [lessE_iff] at hae ⊢
     rw [ByteArray.toList_eq,ByteArray.toList_eq] at hc
     have hne:¬ a.code.data.toList = e.code.data.toList:=by simpa using hc
     exact Decidable.byContradiction fun h=>hne (List.le_antisymm (List.not_lt.1 h) (List.not_lt.1 hae))
    refine List.pairwise_cons.2 ⟨fun x hx=>?_,h⟩
    rcases List.mem_cons.1 hx with rfl | hx
    ·
     exact hea
    ·
     exact lessE_trans hea (h1 x hx)
theorem foldl_facts (l:List Elem) : ∀ acc,SortedE acc→SortedE (l.foldl put acc)∧(∀ c,totE (l.foldl put acc) c = totE acc c+totE l c)∧∀ c,keyE (l.foldl put acc) c = (keyE acc c || keyE l c):=by
 induction l with
 | nil=>intro acc h; exact ⟨h,fun c=>by simp [totE],fun c=>by simp [keyE]⟩
 | cons a l ih =>
  intro acc h
  obtain ⟨h1,h2,h3⟩:=ih (put acc a) (sorted_put h a)
  refine ⟨h1,fun c=>?_,fun c=>?_⟩
  ·
   rw [List.foldl_cons,h2,totE_put]; simp only [totE]; omega
  ·
   rw [List.foldl_cons,h3,keyE_put]
   simp only [keyE,List.any_cons,Bool.or_assoc]
theorem sumsP_sorted (l:List Elem) : SortedE (sumsP l):=(foldl_facts l [] List.Pairwise.nil).1
theorem sumsP_tot (l:List Elem) (c:List UInt8) : totE (sumsP l) c = totE l c:=by
 have:=(foldl_facts l [] List.Pairwise.nil).2.1 c
 simpa [totE,sumsP] using this
theorem tot_out {l:List Elem} {c:List UInt8} (h : ∀ x ∈ l,x.code.data.toList ≠ c) : totE l c = 0:=by
 induction l with
 | nil=>rfl
 | cons a l ih=>simp only [totE,if_neg (h a (by simp))]; rw [ih (fun x hx=>h x (by simp [hx]))]; rfl
theorem mem_sorted {l:List Elem} (h:SortedE l) (x:Elem) : x ∈ l ↔ (keyE l x.code.data.toList = true∧x.amount = totE l x.code.data.toList):=by
 induction l with
 | nil=>simp [keyE]
 | cons a l ih =>
  obtain ⟨h1,h2⟩:=List.pairwise_cons.1 h
  have ih:=ih h2
  have hout:∀ y ∈ l,y.code.data.toList ≠ a.code.data.toList:=by
   intro y hy e
   have:=h1 y hy
   rw [lessE_iff,e] at this
   exact List.lt_irrefl _ this
  by_cases hc:a.code.data.toList = x.code.data.toList
  ·
   have ht:totE l x.code.data.toList = 0:=by rw [← hc]; exact tot_out hout
   simp only [keyE,List.any_cons,totE,hc,decide_true,Bool.true_or,if_true,ht,true_and,List.mem_cons]
   constructor
   ·
    rintro (rfl | hx)
    ·
     omega
    ·
     exact absurd hc.symm (hout x hx)
   ·
    intro hx
    left
    obtain ⟨c1,n1⟩:=x
    obtain ⟨c2,n2⟩:=a
    have:=code_ext hc
    simp only at this hx
    subst this
    congr; omega
  ·
   have hne:x ≠ a:=by rintro rfl; exact hc rfl
   simp only [keyE,List.any_cons,totE,hc,decide_false,Bool.false_or,if_false,Int.zero_add,List.mem_cons,hne,false_or]
   exact ih
end Go.Proofs.YtjncpgbhokjbfaaGreat
