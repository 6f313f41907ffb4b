/- Joined texts: G33f. Conditions: as stated. -/
import Derived.Test.YtlhkojcmcmkmaaaGreatJNetM
import Derived.Test.YtlhkojcmcmkmaaaGreatJGenR
import Derived.Test.YtlhkojcmcmkmaaaGreatJG33b
namespace Go.Proofs.YtlhkojcmcmkmaaaGreat
open Go.RowKit
structure GrossG (m:RulesM) : Prop where
 ok:RulesOk m.t
 m23:m.tm.t.method = 2 ∨ m.tm.t.method = 3
 fl:∀ s ∈ m.ss,s.floor = 0
 lv:leviesR m.t≤900000
 ws:GenW 4 m.ws
 cnt:m.count = 12 ∨ m.count = 4
def CurOf (cur:Array Value) (xs:List SchT) : Prop:=∀ i x,xs[i]? = some x→∀ j v,(encSch x)[j]? = some v→cur[i * 8+j]? = some v
theorem CurOf.own {w:World} {base g cap n : Nat} {xs:List SchT} (h:Own encSch 8 123 w base (.slice (some ⟨g,0,none⟩) n cap) xs) (hn:n = xs.length) : ∃ cur,Blk w g 123 cur∧CurOf cur xs:=by
 subst hn
 rcases h.2 with ⟨hv,_⟩ | ⟨g',cap',cur,hv,hb,hg,hn,hm,hs,ht⟩
 ·
  cases hv
 ·
  injection hv with e1 e2 e3
  injection e1 with e1
  injection e1 with e1 _
  subst e1 e3
  refine ⟨cur,hg,fun i x hi j v hj=>?_⟩
  have h1:=flatMap_at (fun x=>encSch_len x) xs i j x v hi hj
  rw [← ht,List.getElem?_take] at h1
  split at h1
  ·
   rw [← Array.getElem?_toList]; exact h1
  ·
   cases h1
theorem CurOf.take {cur:Array Value} {xs:List SchT} (h:CurOf cur xs) (n:Nat) : CurOf cur (xs.take n):=fun i x hi j v hj=>by
 refine h i x ?_ j v hj
 rw [List.getElem?_take] at hi
 split at hi
 ·
  exact hi
 ·
  cases hi
theorem CurOf.st {cur:Array Value} {xs:List SchT} (h:CurOf cur xs) {k:Nat} {x:SchT} (hk:xs[k]? = some x) (f:Nat) (hf:f < 8) (u:Value) (y:SchT) (hy:encSch y = (encSch x).set f u) : CurOf (cur.setIfInBounds (k * 8+f) u) (xs.set k y):=fun i z hi j v hj=>by
 have hjl:j < 8:=by
  rcases Nat.lt_or_ge j 8 with h | h
  ·
   exact h
  ·
   rw [List.getElem?_eq_none (by rw [encSch_len]; exact h)] at hj; cases hj
 by_cases hik:i = k
 ·
  subst hik
  have hil:i < xs.length:=(List.getElem?_eq_some_iff.1 hk).1
  rw [List.getElem?_set_self hil] at hi
  injection hi with hi
  subst hi
  rw [hy] at hj
  have h0:∃ v0,(encSch x)[j]? = some v0:=⟨_,List.getElem?_eq_getElem (by rw [encSch_len]; exact hjl)⟩
  obtain ⟨v0,h0⟩:=h0
  have hc:=h i x hk j v0 h0
  by_cases hjf:j = f
  ·
   subst hjf
   rw [List.getElem?_set_self (by rw [encSch_len]; exact hjl)] at hj
   injection hj with hj
   subst hj
   rw [Array.getElem?_setIfInBounds_self_of_lt]
   exact (Array.getElem?_eq_some_iff.1 hc).1
  ·
   rw [List.getElem?_set_ne (Ne.symm hjf),h0] at hj
   injection hj with hj
   subst hj
   rw [Array.getElem?_setIfInBounds_ne (by omega)]
   exact hc
 ·
  rw [List.getElem?_set_ne (Ne.symm hik)] at hi
  rw [Array.getElem?_setIfInBounds_ne (by omega)]
  exact h i z hi j v hj
theorem CurOf.slice {cur:Array Value} {xs:List SchT} (h:CurOf cur xs) {W:World} {g B : Nat} (hB:Blk W g 123 cur) (hg:g < B) : SliceOf encSch 8 W B (some ⟨g,0,none⟩) xs:=fun _ =>
 ⟨g,0,rfl,hg,fun i x hi j v hj=>by
  rw [show (0:Nat)+i * 8+j = i * 8+j by omega,hB.cell]
  exact h i x hi j v hj⟩
theorem FrB.wr {α:Type} {enc:α→List Value} {k:Nat} {w:World} {lo hi : Nat} {A:Option Addr} {xs:List α} (h:FrB enc k w lo hi A xs) {q:Nat} (hq:q < lo ∨ hi≤q) (i:Nat) (u:Value) : FrB enc k (w.setCell ⟨q,i,none⟩ u) lo hi A xs:=h.grown (row:=some q) (only_setCell (p:=⟨q,i,none⟩) (only_refl _ _) (.inl rfl) u) (fun p e=>by injection e with e; subst e; exact hq)
structure GsIn (w:World) (b g gs h lo hi : Nat) (R:Array Value) (Aw:Option Addr) (ws:List WageT) (Ab:Option Addr) (brs:List BrT) (ss:List SchT) (cur:Array Value) (M:Nat) (W:World) : Prop where
 r:Blk W w.heap.size 45 #[.slice none 0 0,.slice none 0 0,.int .i64 0,.slice none 0 0,.int .i64 0,.int .i64 0,.int .i64 0,.int .i64 0,.slice none 0 0,.int .i64 0,.int .i64 0,.int .i64 0,.int .i64 0,.int .i64 0,.int .i64 0,.int .i64 0]
 x:Blk W g 45 R
 s:ss ≠ []→Blk W gs 123 cur∧gs < g
 c:CurOf cur ss
 fw:FrB encW 6 W (w.heap.size+1) h Aw ws
 l:FrB encBr 2 W lo hi Ab brs
 d:DeckIn W b M
 G:w.grownBy W (some b)
 n:b < w.heap.size∧w.heap.size < h∧h≤gs∧gs≤g∧g < lo
section
variable {w W W':World} {b g gs h lo hi:Nat} {R:Array Value} {Aw:Option Addr} {ws:List WageT} {Ab:Option Addr} {brs:List BrT} {ss:List SchT} {cur:Array Value} {M M':Nat}
theorem FrB.adv {α:Type} {enc:α→List Value} {k:Nat} {w w' : World} {lo hi : Nat} {A:Option Addr} {xs:List α} (h:FrB enc k w lo hi A xs) (hb:Below w.heap.size w w') : FrB enc k w' lo hi A xs:=h.grown (only_of_below hb none) (fun q e=>by cases e)
theorem GsIn.adv (H:GsIn w b g gs h lo hi R Aw ws Ab brs ss cur M W) (hb:Below W.heap.size W W') : GsIn w b g gs h lo hi R Aw ws Ab brs ss cur M W' :=
 ⟨H.r.adv hb,H.x.adv hb,fun hs=>⟨(H.s hs).1.adv hb,(H.s hs).2⟩,H.c,H.fw.adv hb,H.l.adv hb,H.d.bel hb,only_adv H.G hb,H.n⟩
theorem GsIn.alloc (H:GsIn w b g gs h lo hi R Aw ws Ab brs ss cur M W) (o:Obj) : GsIn w b g gs h lo hi R Aw ws Ab brs ss cur M (W.alloc o):=H.adv (below_new W o)
theorem GsIn.deck (H:GsIn w b g gs h lo hi R Aw ws Ab brs ss cur M W) (hd:DeckIn W' b M') (hg:W.grownBy W' (some b)) : GsIn w b g gs h lo hi R Aw ws Ab brs ss cur M' W':=by
 obtain ⟨n1,n2,n3,n4,n5⟩:=H.n
 exact ⟨H.r.grown hg (by intro e; injection e; omega),H.x.grown hg (by intro e; injection e; omega),fun hs=>⟨(H.s hs).1.grown hg (by intro e; injection e; omega),(H.s hs).2⟩,H.c,
  H.fw.grown hg (fun q e=>by injection e; omega),H.l.grown hg (fun q e=>by injection e; omega),hd,only_trans H.G hg,H.n⟩
theorem GsIn.st (H:GsIn w b g gs h lo hi R Aw ws Ab brs ss cur M W) {k:Nat} {x:SchT} (hk:ss[k]? = some x) (f:Nat) (hf:f < 8) (u:Value) (y:SchT) (hy:encSch y = (encSch x).set f u) :
  GsIn w b g gs h lo hi R Aw ws Ab brs (ss.set k y) (cur.setIfInBounds (k * 8+f) u) M (W.setCell ⟨gs,k * 8+f,none⟩ u):=by
 obtain ⟨n1,n2,n3,n4,n5⟩:=H.n
 have hne:ss ≠ []:=by intro e; rw [e] at hk; simp at hk
 obtain ⟨hB,hgs⟩:=H.s hne
 exact ⟨H.r.far (p:=⟨gs,k * 8+f,none⟩) (by show w.heap.size ≠ gs; omega) u,H.x.far (p:=⟨gs,k * 8+f,none⟩) (by show g ≠ gs; omega) u,fun _=>⟨hB.set_ _ u,hgs⟩,H.c.st hk f hf u y hy,
  H.fw.wr (.inr n3) _ u,H.l.wr (.inl (by omega)) _ u,H.d.set (by omega) _ u,only_setCell (p:=⟨gs,k * 8+f,none⟩) H.G (.inr (by show w.heap.size≤gs; omega)) u,H.n⟩
theorem GsIn.put (H:GsIn w b g gs h lo hi R Aw ws Ab brs ss cur M W) (i:Nat) (u:Value) : GsIn w b g gs h lo hi (R.setIfInBounds i u) Aw ws Ab brs ss cur M (W.setCell ⟨g,i,none⟩ u):=by
 obtain ⟨n1,n2,n3,n4,n5⟩:=H.n
 exact ⟨H.r.far (p:=⟨g,i,none⟩) (by show w.heap.size ≠ g; omega) u,H.x.set_ i u,fun hs=>⟨(H.s hs).1.far (p:=⟨g,i,none⟩) (by have:=(H.s hs).2; show gs ≠ g; omega) u,(H.s hs).2⟩,H.c,
  H.fw.wr (.inr (by omega)) _ u,H.l.wr (.inl (by omega)) _ u,H.d.set (by omega) _ u,only_setCell (p:=⟨g,i,none⟩) H.G (.inr (by show w.heap.size≤g; omega)) u,H.n⟩
end
structure SsK (k n : Nat) (ss:List SchT) : Prop where
 gen:GenSc 3 ss
 len:ss.length = n
 fl:∀ i (hi:i < ss.length),i < k→ss[i].floor = 0
theorem SsK.step {k n : Nat} {ss:List SchT} (h:SsK k n ss) (hk:k < ss.length) {u:Int} (h0:1≤u) (h1:u≤5) : SsK (k+1) n (ss.set k { ss[k] with floor:=0,unit:=u }):=by
 have hD:=h.gen.ok _ (List.getElem_mem hk)
 obtain ⟨d1,d2,d3,d4,d5,d6⟩:=hD
 refine ⟨⟨?_,fun x hx=>?_⟩,by rw [List.length_set]; exact h.len,fun i hi hik=>?_⟩
 ·
  have e:(ss.set k { ss[k] with floor:=0,unit:=u }).map (·.code) = ss.map (·.code):=by
   rw [List.map_set]
   refine List.ext_getElem (by simp) fun i h1 h2=>?_
   rw [List.getElem_set]
   split
   ·
    rename_i e; subst e; simp
   ·
    rfl
  rw [e]; exact h.gen.sub
 ·
  rcases List.mem_or_eq_of_mem_set hx with hx | rfl
  ·
   exact h.gen.ok x hx
  ·
   exact ⟨d1,d2,d3,⟨Int.le_refl 0,by show (0:Int)≤ss[k].ceiling; omega⟩,⟨by show 1≤u; omega,by show u≤100; omega⟩,d6⟩
 ·
  rw [List.getElem_set]
  split
  ·
   rfl
  ·
   rw [List.length_set] at hi
   exact h.fl i hi (by omega)
end Go.Proofs.YtlhkojcmcmkmaaaGreat
