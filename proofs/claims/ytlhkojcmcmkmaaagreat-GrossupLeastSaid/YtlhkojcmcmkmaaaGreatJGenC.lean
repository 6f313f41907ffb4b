/- Joined texts: GenC. Conditions: as stated. -/
import Derived.Test.YtlhkojcmcmkmaaaGreatJNetM
import Derived.Test.YtlhkojcmcmkmaaaGreatJCmp0
import Derived.Test.YtlhkojcmcmkmaaaGreatJGenP2
namespace Go.Proofs.YtlhkojcmcmkmaaaGreat
open Go.RowKit
structure FrN {α:Type} (enc:α→List Value) (k:Nat) (w:World) (base g : Nat) (A:Option Addr) (xs:List α) : Prop where
 sl:SliceOf enc k w w.heap.size A xs
 fr:∀ a,A = some a→base≤a.block
 ne:xs ≠ []→∀ a,A = some a→a.block ≠ g
section
variable {α:Type} {enc:α→List Value} {k:Nat} {w w':World} {base base' g:Nat} {A:Option Addr} {xs:List α}
theorem FrN.grown {row:Option Nat} (h:FrN enc k w base g A xs) (hg:w.grownBy w' row) (hr : ∀ q,row = some q→q < base ∨ q = g) : FrN enc k w' base g A xs:=by
 refine ⟨fun hne=>?_,h.fr,h.ne⟩
 exact (h.sl.advN hg (fun a ha e=>by
  have h1:=h.fr a ha
  have h3:=h.ne hne a ha
  rcases hr _ e with h2 | h2
  ·
   omega
  ·
   exact h3 h2)) hne
theorem FrN.adv (h:FrN enc k w base g A xs) (hb:Below w.heap.size w w') : FrN enc k w' base g A xs:=⟨h.sl.adv hb,h.fr,h.ne⟩
end
structure RulesN (m:RulesM) (w:World) (base g : Nat) : Prop where
 ws:FrN encW 6 w base g m.Aw m.ws
 ss:FrN encSch 8 w base g m.As m.ss
 brs:FrN encBr 2 w base g m.tm.Ab m.tm.t.brs
 rows:FrN encRw 2 w base g m.tm.Ar m.tm.t.rows
theorem RulesN.grown {m:RulesM} {w w' : World} {base g : Nat} {row:Option Nat} (h:RulesN m w base g) (hg:w.grownBy w' row) (hr : ∀ q,row = some q→q < base ∨ q = g) : RulesN m w' base g:=⟨h.ws.grown hg hr,h.ss.grown hg hr,h.brs.grown hg hr,h.rows.grown hg hr⟩
theorem RulesN.in_ {m:RulesM} {w:World} {base g : Nat} (h:RulesN m w base g) : m.In w:=⟨h.ws.sl,h.ss.sl,⟨h.brs.sl,h.rows.sl⟩⟩
theorem RulesN.set {m:RulesM} {w:World} {base g q : Nat} (h:RulesN m w base g) (hq:q < base) (i:Nat) (u:Value) : RulesN m (w.setCell ⟨q,i,none⟩ u) base g:=h.grown (row:=some q) (only_setCell (p:=⟨q,i,none⟩) (only_refl _ _) (.inl rfl) u) (fun p e=>.inl (by injection e; omega))
structure PersonN (m:PersonM) (w:World) (base g : Nat) : Prop where
 ds:FrN encD 6 w base g m.Ad m.ds
 os:FrN encOd 5 w base g m.Ao m.os
 es:FrN encEm 2 w base g m.Ae m.es
 ins:∀ e ∈ m.es,FrN encI 1 w base g e.A e.l
theorem PersonN.grown {m:PersonM} {w w' : World} {base g : Nat} {row:Option Nat} (h:PersonN m w base g) (hg:w.grownBy w' row) (hr : ∀ q,row = some q→q < base ∨ q = g) : PersonN m w' base g:=⟨h.ds.grown hg hr,h.os.grown hg hr,h.es.grown hg hr,fun e he=>(h.ins e he).grown hg hr⟩
theorem PersonN.in_ {m:PersonM} {w:World} {base g : Nat} (h:PersonN m w base g) : m.In w:=⟨h.ds.sl,h.os.sl,h.es.sl,fun e he=>(h.ins e he).sl⟩
theorem PersonN.set {m:PersonM} {w:World} {base g q : Nat} (h:PersonN m w base g) (hq:q < base) (i:Nat) (u:Value) : PersonN m (w.setCell ⟨q,i,none⟩ u) base g:=h.grown (row:=some q) (only_setCell (p:=⟨q,i,none⟩) (only_refl _ _) (.inl rfl) u) (fun p e=>.inl (by injection e; omega))
structure YearN (m:YearM) (w:World) (base g : Nat) : Prop where
 ins:FrN encI 1 w base g m.Ai m.ins
 taken:FrN encE 2 w base g m.At m.taken
theorem YearN.grown {m:YearM} {w w' : World} {base g : Nat} {row:Option Nat} (h:YearN m w base g) (hg:w.grownBy w' row) (hr : ∀ q,row = some q→q < base ∨ q = g) : YearN m w' base g:=⟨h.ins.grown hg hr,h.taken.grown hg hr⟩
theorem YearN.in_ {m:YearM} {w:World} {base g : Nat} (h:YearN m w base g) : m.In w:=⟨h.ins.sl,h.taken.sl⟩
theorem YearN.set {m:YearM} {w:World} {base g q : Nat} (h:YearN m w base g) (hq:q < base) (i:Nat) (u:Value) : YearN m (w.setCell ⟨q,i,none⟩ u) base g:=h.grown (row:=some q) (only_setCell (p:=⟨q,i,none⟩) (only_refl _ _) (.inl rfl) u) (fun p e=>.inl (by injection e; omega))
theorem FrN.set {α:Type} {enc:α→List Value} {k:Nat} {w:World} {base g q : Nat} {A:Option Addr} {xs:List α} (h:FrN enc k w base g A xs) (hq:q < base) (i:Nat) (u:Value) : FrN enc k (w.setCell ⟨q,i,none⟩ u) base g A xs:=h.grown (row:=some q) (only_setCell (p:=⟨q,i,none⟩) (only_refl _ _) (.inl rfl) u) (fun p e=>.inl (by injection e; omega))
def CsIn (w:World) (b g : Nat) (cs:Array Value) (M:Nat) (wx:World) : Prop :=
 Blk wx g 55 cs∧Blk wx w.heap.size 55 #[.slice none 0 0,.slice none 0 0,.int .i64 0,.slice none 0 0,.int .i64 0,.int .i64 0,.int .i64 0,.int .i64 0,.slice none 0 0,.int .i64 0,.int .i64 0,.int .i64 0,.int .i64 0,.int .i64 0,.int .i64 0,.int .i64 0,.int .i64 0,.slice none 0 0,.slice none 0 0,.slice none 0 0,.int .i64 0,.int .i64 0,.int .i64 0,.slice none 0 0,.slice none 0 0,.slice none 0 0,.bool false,.slice none 0 0]∧DeckIn wx b M∧w.grownBy wx (some b)∧w.heap.size < g∧b < w.heap.size
section
variable {w wx wy:World} {b g M M':Nat} {cs:Array Value}
theorem CsIn.put (h:CsIn w b g cs M wx) (i:Nat) (u:Value) : CsIn w b g (cs.setIfInBounds i u) M (wx.setCell ⟨g,i,none⟩ u):=by
 obtain ⟨h1,h2,h3,h4,h5,h6⟩:=h
 exact ⟨h1.set_ i u,h2.far (p:=⟨g,i,none⟩) (by show w.heap.size ≠ g; omega) u,h3.set (by omega) i u,only_setCell (p:=⟨g,i,none⟩) h4 (.inr (by show w.heap.size≤g; omega)) u,h5,h6⟩
end
def cCity : ByteArray:=⟨#[99,105,116,121]⟩
structure CaseG (rm:RulesM) (pm:PersonM) (ym:YearM) (kept es : List Elem) : Prop where
 r:RulesG rm
 k:∃ k:Nat,k≤3∧(k:Int) < rm.count∧PersonG k pm∧YearG k ym
 kept:kept = [] ∨ ∃ r:Int,0≤r∧r < 600000∧kept = [⟨cCity,r⟩]
 e:GenE rm.ws es∧es.length≤5
end Go.Proofs.YtlhkojcmcmkmaaaGreat
