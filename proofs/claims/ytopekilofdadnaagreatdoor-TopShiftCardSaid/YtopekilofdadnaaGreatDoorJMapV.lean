/- Joined texts: MapV. Conditions: as stated. -/
import Derived.WideKeyEntry
import Derived.Maps.RangeWalk
import Derived.Maps.OwnOps
import Derived.Maps.Ext
import Derived.Sort.KeysCollected
import Derived.Test.YtopekilofdadnaaGreatDoorJTvN
import Derived.Test.YtopekilofdadnaaGreatDoorJLeaf
namespace Go.Proofs.YtopekilofdadnaaGreatDoor
open Go.RowKit Go.Maps Go.Sort
def heldE (v:Value) : Option (DataW Value × List MemPlace):=some (.held v,[])
structure KeyE (P:Program) (k:TypeId) (κ:Type) where
 val:κ→Value
 lit:κ→Lit
 good:κ→Prop
 law:Keyed P k
 of_:∀ x,good x→keyOf P k (val x) = some (lit x)
 inj:∀ x y,good x→good y→lit x = lit y→x = y
 inv:∀ v l,keyOf P k v = some l→∃ x,good x∧v = val x∧l = lit x
section
variable {P:Program} {k t e:TypeId} {κ:Type} {E:KeyE P k κ} {w w':World} {b n m:Nat} {D:DataW Value} {f g:κ→Option Value} {x:κ} {z v:Value}
structure MapD (E:KeyE P k κ) (D:DataW Value) (f:κ→Option Value) : Prop where
 isMap:IsMap D
 has:∀ x,E.good x→Maps.has D (E.lit x) = (f x).isSome
 at_:∀ x,E.good x→∀ z,D.atKey (E.lit x) (.held z) = .held ((f x).getD z)
def MapAt (E:KeyE P k κ) (w:World) (b n : Nat) (f:κ→Option Value) : Prop:=∃ D,w.ownsMap P k heldE b n D∧MapD E D f
theorem MapAt.made (E:KeyE P k κ) (w:World) : MapAt E (w.alloc (.map #[] 0)) w.heap.size 0 (fun _=>none) :=
 ⟨_,World.ownsMap_made w P k heldE,isMap_empty,fun _ _=>rfl,fun _ _ _=>rfl⟩
theorem MapAt.mono (h:MapAt E w b n f) (hn:n≤m) : MapAt E w b m f:=by
 obtain ⟨D,h1,h2⟩:=h
 exact ⟨D,h1.mono hn,h2⟩
theorem MapAt.lt (h:MapAt E w b n f) : b < w.heap.size:=by
 obtain ⟨D,h1,h2⟩:=h
 exact h1.lt
theorem MapAt.kept {row:Option Nat} (h:MapAt E w b n f) (hg:w.grownBy w' row) (hne:some b ≠ row) : MapAt E w' b n f:=by
 obtain ⟨D,h1,h2⟩:=h
 exact ⟨D,h1.kept hg hne,h2⟩
theorem MapAt.adv (h:MapAt E w b n f) (hb:Below w.heap.size w w') : MapAt E w' b n f:=h.kept (only_of_below hb none) (by simp)
theorem MapAt.alloc (h:MapAt E w b n f) (o:Obj) : MapAt E (w.alloc o) b n f:=h.kept (World.grownBy_alloc w o none) (by simp)
theorem MapAt.below {B:Nat} (h:MapAt E w b n f) (hb:Below B w w') (hB:b < B) : MapAt E w' b n f:=by
 obtain ⟨D,⟨es,clock,hb1,h2⟩,h3⟩:=h
 exact ⟨D,⟨es,clock,(hb.block b hB).trans hb1,h2⟩,h3⟩
theorem MapAt.drewN (h:MapAt E w b n f) (q:Nat) : MapAt E (w.drewN q) b n f:=h
theorem MapAt.drew (h:MapAt E w b n f) : MapAt E w.drew b n f:=h
theorem MapAt.congr (h:MapAt E w b n f) (hf : ∀ x,E.good x→g x = f x) : MapAt E w b n g:=by
 obtain ⟨D,h1,h2⟩:=h
 exact ⟨D,h1,h2.isMap,fun x hx=>by rw [hf x hx]; exact h2.has x hx,fun x hx=>by rw [hf x hx]; exact h2.at_ x hx⟩
theorem MapAt.look (c:Bool) (h:MapAt E w b n f) (ht:P.underlying t = some (.map k e)) (hz : (zeroValue e).run P w = .ok z w) (hx:E.good x) :
  (Instr.lookup t (.map (some b)) (E.val x) c).run P w = .ok (if c then .tuple #[(f x).getD z,.bool (f x).isSome] else (f x).getD z) w:=by
 obtain ⟨D,⟨es,clock,hb,F,hs,rfl⟩,hD⟩:=h
 have h1:=hD.has x hx
 have h2:=hD.at_ x hx
 rcases Maps.fit_look c E.law ht hz hb F (E.of_ x hx) with ⟨hrun,_,hat⟩ | ⟨e0,y,_,_,hrun,hR,hat,_⟩
 ·
  rw [has_false_of_atKey hat] at h1
  cases hf:f x with
  | none=>rw [hrun]; rfl
  | some u=>rw [hf] at h1; cases h1
 ·
  obtain rfl:(.held e0.val,[]) = y:=by injection hR
  rw [has_true_of_atKey hat] at h1
  cases hf:f x with
  | none=>rw [hf] at h1; cases h1
  | some u =>
   have h3:=h2 z
   rw [hat,hf] at h3
   injection h3 with h3
   have h3:e0.val = u:=h3
   rw [hrun,h3]
   rfl
theorem MapAt.get (h:MapAt E w b n f) (ht:P.underlying t = some (.map k e)) (hz : (zeroValue e).run P w = .ok z w) (hx:E.good x) : (Instr.lookup t (.map (some b)) (E.val x) false).run P w = .ok ((f x).getD z) w:=h.look false ht hz hx
theorem MapAt.ask (h:MapAt E w b n f) (ht:P.underlying t = some (.map k e)) (hz : (zeroValue e).run P w = .ok z w) (hx:E.good x) : (Instr.lookup t (.map (some b)) (E.val x) true).run P w = .ok (.tuple #[(f x).getD z,.bool (f x).isSome]) w:=h.look true ht hz hx
theorem MapAt.update (h:MapAt E w b n f) (ht:P.underlying t = some (.map k e)) (hn:n < maxLen) (hx:E.good x) (v:Value) (hg1:g x = some v) (hg2 : ∀ y,y ≠ x→g y = f y) :
  ∃ w',(Instr.mapUpdate t (.map (some b)) (E.val x) v).run P w = .ok () w'∧MapAt E w' b (n+1) g∧w.grownBy w' (some b):=by
 obtain ⟨D,h1,hD⟩:=h
 obtain ⟨w',hrun,h2,h3⟩:=h1.update E.law ht hn (E.of_ x hx) (show heldE v = some (.held v,[]) from rfl)
 have hl:=E.law.key (E.of_ x hx)
 refine ⟨w',hrun,⟨_,h2,hD.isMap.put _ _,fun y hy=>?_,fun y hy z=>?_⟩,h3⟩
 ·
  by_cases e:y = x
  ·
   subst e
   rw [has_put_same hD.isMap hl,hg1]; rfl
  ·
   rw [has_put_other (fun e'=>e (E.inj _ _ hy hx e')),hD.has y hy,hg2 y e]
 ·
  by_cases e:y = x
  ·
   subst e
   rw [atKey_put_same hD.isMap hl,hg1]; rfl
  ·
   rw [atKey_put_other (fun e'=>e (E.inj _ _ hy hx e')),hD.at_ y hy,hg2 y e]
end
section
variable {P:Program} {k t e:TypeId} {κ:Type} {E:KeyE P k κ} {w:World} {ops:Array Oper} {rest:List Oper} {o:Oper} {a:Act} {Q:Exit→Act→World→Prop} {b n:Nat} {f:κ→Option Value}
theorem wpList_get (hg:o.guard = none) (m y : Operand) (t:TypeId) (hop:o.op = Op.lookup t m y false) (ht:P.underlying t = some (.map k e)) (z:Value) (hz : (zeroValue e).run P w = .ok z w) (h:MapAt E w b n f) (x:κ) (hx:E.good x)
  (hm:a.eval m = .map (some b)) (hy:a.eval y = E.val x) (v:Value) (hv:(f x).getD z = v) (hK:wpList P ops Q rest (a.put o.dst v) w) : wpList P ops Q (o :: rest) a w:=by
 refine wpList_plain hg fun K' hK'=>?_
 unfold Oper.wp
 simp [execOp,hop,hm,hy,h.get ht hz hx,Result.andThen,hv]
 exact hK' _ _ hK
theorem wpList_ask (hg:o.guard = none) (m y : Operand) (t:TypeId) (hop:o.op = Op.lookup t m y true) (ht:P.underlying t = some (.map k e)) (z:Value) (hz : (zeroValue e).run P w = .ok z w) (h:MapAt E w b n f) (x:κ) (hx:E.good x)
  (hm:a.eval m = .map (some b)) (hy:a.eval y = E.val x) (v:Value) (c:Bool) (hv:(f x).getD z = v) (hc:(f x).isSome = c) (hK:wpList P ops Q rest (a.put o.dst (.tuple #[v,.bool c])) w) : wpList P ops Q (o :: rest) a w:=by
 refine wpList_plain hg fun K' hK'=>?_
 unfold Oper.wp
 simp [execOp,hop,hm,hy,h.ask ht hz hx,Result.andThen,hv,hc]
 exact hK' _ _ hK
theorem wpList_set (g:κ→Option Value) (hg:o.guard = none) (m y u : Operand) (t:TypeId) (hop:o.op = Op.mapUpdate t m y u) (ht:P.underlying t = some (.map k e)) (h:MapAt E w b n f) (hn:n < maxLen) (x:κ) (hx:E.good x) (v:Value)
  (hm:a.eval m = .map (some b)) (hy:a.eval y = E.val x) (hu:a.eval u = v) (hg1:g x = some v) (hg2:∀ y,y ≠ x→g y = f y)
  (hK:∀ w',MapAt E w' b (n+1) g→w.grownBy w' (some b)→wpList P ops Q rest (a.put o.dst undef) w') : wpList P ops Q (o :: rest) a w:=by
 refine wpList_plain hg fun K' hK'=>?_
 obtain ⟨w',hrun,r1,r2⟩:=h.update ht hn hx v hg1 hg2
 unfold Oper.wp
 simp [execOp,hop,hm,hy,hu,hrun,Result.andThen]
 exact hK' _ _ (hK w' r1 r2)
end
def RangeAt {P:Program} {k:TypeId} {κ:Type} (E:KeyE P k κ) (w:World) (b r n : Nat) (f:κ→Option Value) (left:κ→Bool) (cnt:Nat) : Prop :=
 ∃ D l,w.ranges P k heldE b r n D l cnt∧MapD E D f∧∀ x,E.good x→l (E.lit x) = left x
section
variable {P:Program} {k t e:TypeId} {κ:Type} {E:KeyE P k κ} {w w':World} {b r n cnt:Nat} {f:κ→Option Value} {left:κ→Bool}
theorem RangeAt.lt (h:RangeAt E w b r n f left cnt) : r < w.heap.size:=by
 obtain ⟨D,l,h1,h2,_⟩:=h
 exact h1.lt
theorem RangeAt.left_eq (h:RangeAt E w b r n f left cnt) : w.rangeLeft b r = cnt:=by
 obtain ⟨D,l,h1,h2,_⟩:=h
 exact h1.left_eq
theorem RangeAt.kept {row:Option Nat} (h:RangeAt E w b r n f left cnt) (hg:w.grownBy w' row) (hb:some b ≠ row) (hr:some r ≠ row) : RangeAt E w' b r n f left cnt:=by
 obtain ⟨D,l,h1,h2,h3⟩:=h
 exact ⟨D,l,h1.kept hg hb hr,h2,h3⟩
variable {ops:Array Oper} {rest:List Oper} {o:Oper} {a:Act} {Q:Exit→Act→World→Prop}
theorem wpList_range_at (hg:o.guard = none) (m:Operand) (t:TypeId) (hop:o.op = Op.range t m) (ht:P.underlying t = some (.map k e)) (h:MapAt E w b n f) (hm:a.eval m = .map (some b))
  (hK:∀ w' cnt,RangeAt E w' b w.heap.size n f (fun x=>(f x).isSome) cnt→w.grownBy w' none→w'.heap.size = w.heap.size+1→cnt≤n→wpList P ops Q rest (a.put o.dst (.pointer (some ⟨w.heap.size,0,none⟩))) w') :
  wpList P ops Q (o :: rest) a w:=by
 obtain ⟨D,h1,h2⟩:=h
 have hsz:Maps.size D≤n:=by
  obtain ⟨es,clock,_,_,hn',rfl⟩:=h1
  rw [Maps.size_eq,length_sorted]
  simpa using hn'
 exact wpList_range_own w hg m t hop k e E.law ht heldE b n D hm h1 fun w' r1 r2 r3=>hK w' _ ⟨D,_,r1,h2,fun x hx=>h2.has x hx⟩ r2 r3 hsz
theorem wpList_next_at [DecidableEq κ] (hg:o.guard = none) (it:Operand) (hop:o.op = Op.next it false) (hit:a.eval it = .pointer (some ⟨r,0,none⟩)) (h:RangeAt E w b r n f left cnt)
  (hDone:cnt = 0→(∀ x,E.good x→left x = false)→wpList P ops Q rest (a.put o.dst (.tuple #[.bool false])) w)
  (hMore:∀ (x:κ) (v:Value) (w':World) (cnt':Nat),E.good x→left x = true→f x = some v→RangeAt E w' b r n f (fun y=>left y && !decide (y = x)) cnt'→cnt' < cnt→w.grownBy w' (some r)→w'.heap.size = w.heap.size →
   (Instr.entry (.pointer (some ⟨r,0,none⟩))).run P w' = .ok (.tuple #[E.val x,v]) w'→wpList P ops Q rest (a.put o.dst (.tuple #[.bool true,E.val x,v])) w') :
  wpList P ops Q (o :: rest) a w:=by
 obtain ⟨D,l,h1,h2,h3⟩:=h
 refine wpList_next_ranges w hg it hop k E.law heldE id id (fun key _ _=>⟨key,rfl⟩) (fun v _ _=>⟨v,rfl⟩) b r n D l cnt hit h1 (fun h0 hl=>hDone h0 fun x hx=>by rw [← h3 x hx]; exact hl _) ?_
 intro key v kl y w' cnt' hkey hlk hv hat hrg hlt hgr hsz hen
 simp only [id] at hkey hv hen ⊢
 obtain ⟨x,hx,rfl,rfl⟩:=E.inv _ _ hkey
 obtain rfl:(.held v,[]) = y:=by injection hv
 have hf:f x = some v:=by
  have g1:=h2.has x hx
  rw [has_true_of_atKey hat] at g1
  cases hf:f x with
  | none=>rw [hf] at g1; cases g1
  | some u =>
   have g2:=h2.at_ x hx v
   rw [hat,hf] at g2
   injection g2 with g2
   rw [show v = u from g2]
 refine hMore x v w' cnt' hx (by rw [← h3 x hx]; exact hlk) hf ⟨D,_,hrg,h2,fun y hy=>?_⟩ hlt hgr hsz hen
 rw [h3 y hy]
 by_cases e:y = x
 ·
  subst e
  rw [WideAt.sameKey_self (E.law.key (E.of_ y hy))]
  simp
 ·
  rw [sameKey_ne (fun e'=>e (E.inj _ _ hy hx e'))]
  simp [e]
end
theorem wf64 {n:Int} (h1 : -9223372036854775808≤n) (h2:n≤9223372036854775807) : (Lit.int .i64 n).wf = true:=by
 simp [Lit.wf,IntKind.min,IntKind.max,IntKind.signed,IntKind.bits]; omega
def keyI : KeyE Tryz.prog 3 Int where
 val:=Value.int .i64
 lit:=Lit.int .i64
 good:=fun n=>(Lit.int .i64 n).wf = true
 law:=int_keyed Tryz.underlying3
 of_:=fun _ h=>keyOf_int_mk Tryz.underlying3 h
 inj:=fun x y _ _ h=>by injection h
 inv:=fun v l h=>by
  obtain ⟨x,h1,h2,h3⟩:=Maps.keyOf_int_inv Tryz.underlying3 h
  exact ⟨x,h3,h1,h2⟩
def keyS : KeyE Tryz.prog 9 ByteArray where
 val:=Value.string
 lit:=fun s=>.string s.data.toList
 good:=fun s=>s.size≤maxLen
 law:=string_keyed Tryz.underlying9
 of_:=fun _ h=>WideMaps.keyOf_string_mk Tryz.underlying9 h
 inj:=fun x y _ _ h=>by
  injection h with h
  cases x; cases y
  simp only [ByteArray.mk.injEq]
  exact Array.ext' h
 inv:=fun v l h=>by
  obtain ⟨x,h1,h2,h3⟩:=Maps.keyOf_str Tryz.underlying9 h
  have h1:v = .string ⟨x.toArray⟩:=by simpa [encStr] using h1
  exact ⟨⟨x.toArray⟩,by show x.toArray.size≤maxLen; simpa using h3,h1,by rw [h2]⟩
end Go.Proofs.YtopekilofdadnaaGreatDoor
