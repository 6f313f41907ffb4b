/- Joined texts: TgF TgM TgF2. Conditions: as stated. -/
import Derived.Test.YtopekilofdadnaaGreatDoorJLeaf
import Derived.Test.YtopekilofdadnaaGreatDoorJTgE
import Derived.Test.YtopekilofdadnaaGreatDoorJIterC
import Derived.Test.YtopekilofdadnaaGreatDoorJMapV
namespace Go.Proofs.YtopekilofdadnaaGreatDoor
open Go.RowKit Go.Maps Go.Sort Go.Shelf
theorem keys_of_map {w:World} {b n : Nat} {D:DataW Value} {f:Int→Option Value} (h:w.ownsMap Tryz.prog 3 heldE b n D) (hD:MapD keyI D f) :
  (intKeys D).Nodup∧(∀ x,x ∈ intKeys D ↔ ((Lit.int .i64 x).wf = true∧(f x).isSome = true))∧Maps.size D≤n:=by
 have hsz:Maps.size D≤n:=by
  obtain ⟨es,clock,_,_,hn',rfl⟩:=h
  rw [Maps.size_eq,length_sorted]
  simpa using hn'
 obtain ⟨es,hE,hpw,_⟩:=h.entries keyI.law
 obtain ⟨es',hE',hko⟩:=h.keysOf
 obtain rfl:es = es':=by rw [hE] at hE'; simpa using hE'
 subst hE
 have hk:∀ p ∈ es,∃ x,p.1 = .int .i64 x∧(Lit.int .i64 x).wf = true:=fun p hp=>by
  obtain ⟨v,hv⟩:=hko p hp
  obtain ⟨x,_,h2,h3⟩:=Maps.keyOf_int_inv Tryz.underlying3 hv
  exact ⟨x,h2,h3⟩
 refine ⟨?_,fun x=>?_,hsz⟩
 ·
  show (es.map fun p=>Go.intOf p.1).Nodup
  refine List.pairwise_map.2 (hpw.imp_of_mem fun {p q} hp' hq' hne e=>hne ?_)
  obtain ⟨a,ha,_⟩:=hk p hp'
  obtain ⟨b,hb,_⟩:=hk q hq'
  rw [ha,hb] at e ⊢
  exact congrArg _ e
 ·
  show x ∈ es.map (fun p=>Go.intOf p.1) ↔ _
  rw [List.mem_map]
  constructor
  ·
   rintro ⟨p,hp,rfl⟩
   obtain ⟨a,ha,hw⟩:=hk p hp
   rw [ha]
   refine ⟨hw,?_⟩
   rw [show Go.intOf (Lit.int .i64 a) = a from rfl,← hD.has a hw,has_eq,List.any_eq_true]
   exact ⟨p,hp,by rw [ha]; simp [Lit.sameKey,keyI]⟩
  ·
   rintro ⟨hw,hs⟩
   rw [← hD.has x hw,has_eq,List.any_eq_true] at hs
   obtain ⟨p,hp,hs⟩:=hs
   obtain ⟨a,ha,_⟩:=hk p hp
   rw [ha] at hs
   exact ⟨p,hp,by rw [ha]; simpa [Lit.sameKey,keyI,Go.intOf] using hs⟩
theorem ms_srt {ss:List Int} (h:ss.Nodup) : srtC cmpI (ss.mergeSort fun x y=>decide (x≤y)):=by
 have tr:∀ a b c:Int,decide (a≤b) = true→decide (b≤c) = true→decide (a≤c) = true:=fun a b c h1 h2=>by simp only [decide_eq_true_eq] at *; omega
 have htot:∀ a b:Int,(decide (a≤b) || decide (b≤a)) = true:=fun a b=>by simp only [Bool.or_eq_true,decide_eq_true_eq]; omega
 have h1:=List.pairwise_mergeSort tr htot ss
 have h2:(ss.mergeSort fun x y=>decide (x≤y)).Nodup:=(List.mergeSort_perm ss _).nodup_iff.2 h
 refine (h1.and h2).imp fun {a b} hab=>?_
 have:=hab.1
 simp only [decide_eq_true_eq] at this
 have hne:=hab.2
 unfold cmpI
 rw [if_pos (by omega)]
def KeysPost (f:Int→Option Value) (n:Nat) (W:World) (e:Ending) (w' : World) : Prop :=
 ∃ (v:Value) (ks:List Int),e = .returned v∧srtC cmpI ks∧(∀ x,x ∈ ks ↔ ((Lit.int .i64 x).wf = true∧(f x).isSome = true))∧Own encI 1 3 w' W.heap.size v ks∧Below W.heap.size W w'∧ks.length≤n
theorem flat_encI : ∀ ks : List Int,ks.flatMap encI = ks.map (Value.int .i64)
 | []=>rfl
 | k :: ks=>by rw [List.flatMap_cons,List.map_cons,flat_encI ks]; rfl
theorem sortsI (m:Nat) : AnyZI.SortsIn Tryz.prog Tryz.sortedI_ren Fence.wide m :=
  ⟨fun blk off cap ss W hH hblk hsz=>callsIn_wide.2 (AnyM.slices_Sort_int Tryz.sortI blk off cap ss W hH hblk hsz),
   fun p cap W=>callsIn_wide.2 (AnyM.slices_Sort_int_none Tryz.sortI p cap W)⟩
theorem keysR_in (mb:Option Nat) (W:World) : Calls Tryz.prog 34 #[.map mb] W fun e w'=>e = .returned (.func (.func 77) #[] #[.pointer (some ⟨W.heap.size,0,none⟩)])∧w' = W.alloc (.cells #[.map mb] 106) :=
 callsIn_wide.1 (AnyZI.keys_in Tryz.keysR Fence.wide 5 trivial rfl mb W)
theorem keysC_in (mb:Option Nat) (W:World) : Calls Tryz.prog 67 #[.map mb] W fun e w'=>e = .returned (.func (.func 108) #[] #[.pointer (some ⟨W.heap.size,0,none⟩)])∧w' = W.alloc (.cells #[.map mb] 175) :=
 callsIn_wide.1 (AnyZI.keys_in Tryz.keysC Fence.wide 5 trivial rfl mb W)
set_option maxHeartbeats 1000000 in
theorem sortedR {n b : Nat} {f:Int→Option Value} (w:World) (h:MapAt keyI w b n f) (hn:n≤4294967296) :
  Calls Tryz.prog 33 #[.func (.func 77) #[] #[.pointer (some ⟨w.heap.size,0,none⟩)]] (w.alloc (.cells #[.map (some b)] 106)) (KeysPost f n (w.alloc (.cells #[.map (some b)] 106))):=by
 obtain ⟨D,hown,hD⟩:=h
 obtain ⟨k1,k2,k3⟩:=keys_of_map hown hD
 have hbl:=hown.lt
 have hseq:SeqGives Fence.wide 2 Tryz.prog 77 #[.pointer (some ⟨w.heap.size,0,none⟩)] encZ (fun ss=>ss.Perm (intKeys D)) (Maps.size D) (w.alloc (.cells #[.map (some b)] 106)) :=
  AnyZI.keys_gives (ρ:=Tryz.keysR_ren) { Tryz.keysR with } Fence.wide _ trivial rfl (by omega) w.heap.size b n D _ (by simp) (by simp) (by
   obtain ⟨es,clock,hb,Ft,hs,hD⟩:=hown
   exact ⟨es,clock,(Below.heap_alloc _ _ b hbl).trans hb,Ft,hs,hD⟩)
 have cS:=AnyZI.sorted_in Tryz.sortedI Fence.wide 5 trivial trivial trivial trivial rfl (by omega) (sortsI _) (enters_of Tryz.func76 (by kernel_rfl) rfl) 77 #[.pointer (some ⟨w.heap.size,0,none⟩)] trivial (enters_of Tryz.func77 (by kernel_rfl) rfl) _ _ (by unfold maxLen; omega) (by omega) _ hseq
 refine (callsIn_wide.1 cS).mono ?_
 rintro e w' ⟨v,ss,rfl,hS,hrow,_,hb⟩
 have hp:=(List.mergeSort_perm ss fun x y=>decide (x≤y))
 refine ⟨v,ss.mergeSort fun x y=>decide (x≤y),rfl,ms_srt (hS.nodup_iff.2 k1),fun x=>by rw [hp.mem_iff,hS.mem_iff,k2],?_,hb,?_⟩
 ·
  unfold Own
  rw [flat_encI,hp.length_eq]
  exact hrow
 ·
  rw [hp.length_eq]
  have h4:(intKeys D).length = Maps.size D:=by
   obtain ⟨es,hE,_⟩:=hown.entries keyI.law
   subst hE
   simp [intKeys,Maps.size]
  rw [hS.length_eq,h4]
  exact k3
set_option maxHeartbeats 1000000 in
theorem sortedC {n b : Nat} {f:Int→Option Value} (w:World) (h:MapAt keyI w b n f) (hn:n≤4294967296) :
  Calls Tryz.prog 33 #[.func (.func 108) #[] #[.pointer (some ⟨w.heap.size,0,none⟩)]] (w.alloc (.cells #[.map (some b)] 175)) (KeysPost f n (w.alloc (.cells #[.map (some b)] 175))):=by
 obtain ⟨D,hown,hD⟩:=h
 obtain ⟨k1,k2,k3⟩:=keys_of_map hown hD
 have hbl:=hown.lt
 have hseq:SeqGives Fence.wide 2 Tryz.prog 108 #[.pointer (some ⟨w.heap.size,0,none⟩)] encZ (fun ss=>ss.Perm (intKeys D)) (Maps.size D) (w.alloc (.cells #[.map (some b)] 175)) :=
  AnyZI.keys_gives (ρ:=Tryz.keysC_ren) { Tryz.keysC with } Fence.wide _ trivial rfl (by omega) w.heap.size b n D _ (by simp) (by simp) (by
   obtain ⟨es,clock,hb,Ft,hs,hD⟩:=hown
   exact ⟨es,clock,(Below.heap_alloc _ _ b hbl).trans hb,Ft,hs,hD⟩)
 have cS:=AnyZI.sorted_in Tryz.sortedI Fence.wide 5 trivial trivial trivial trivial rfl (by omega) (sortsI _) (enters_of Tryz.func76 (by kernel_rfl) rfl) 108 #[.pointer (some ⟨w.heap.size,0,none⟩)] trivial (enters_of Tryz.func108 (by kernel_rfl) rfl) _ _ (by unfold maxLen; omega) (by omega) _ hseq
 refine (callsIn_wide.1 cS).mono ?_
 rintro e w' ⟨v,ss,rfl,hS,hrow,_,hb⟩
 have hp:=(List.mergeSort_perm ss fun x y=>decide (x≤y))
 refine ⟨v,ss.mergeSort fun x y=>decide (x≤y),rfl,ms_srt (hS.nodup_iff.2 k1),fun x=>by rw [hp.mem_iff,hS.mem_iff,k2],?_,hb,?_⟩
 ·
  unfold Own
  rw [flat_encI,hp.length_eq]
  exact hrow
 ·
  rw [hp.length_eq]
  have h4:(intKeys D).length = Maps.size D:=by
   obtain ⟨es,hE,_⟩:=hown.entries keyI.law
   subst hE
   simp [intKeys,Maps.size]
  rw [hS.length_eq,h4]
  exact k3
end Go.Proofs.YtopekilofdadnaaGreatDoor
namespace Go.Proofs.YtopekilofdadnaaGreatDoor
open Go.RowKit Go.Maps Go.Sort Go.Shelf
def MapC {P:Program} {k:TypeId} {κ:Type} (E:KeyE P k κ) (w:World) (b n : Nat) (v:Value) : Prop:=∃ f,MapAt E w b n f∧∀ x u,f x = some u→u = v
section
variable {P:Program} {k t e:TypeId} {κ:Type} {E:KeyE P k κ} {w w':World} {b n m:Nat} {v:Value}
theorem MapC.made (E:KeyE P k κ) (w:World) (v:Value) : MapC E (w.alloc (.map #[] 0)) w.heap.size 0 v:=⟨_,MapAt.made E w,fun _ _ h=>by cases h⟩
theorem MapC.mono (h:MapC E w b n v) (hn:n≤m) : MapC E w b m v:=by
 obtain ⟨f,h1,h2⟩:=h
 exact ⟨f,h1.mono hn,h2⟩
theorem MapC.lt (h:MapC E w b n v) : b < w.heap.size:=by
 obtain ⟨f,h1,h2⟩:=h
 exact h1.lt
theorem MapC.kept {row:Option Nat} (h:MapC E w b n v) (hg:w.grownBy w' row) (hne:some b ≠ row) : MapC E w' b n v:=by
 obtain ⟨f,h1,h2⟩:=h
 exact ⟨f,h1.kept hg hne,h2⟩
theorem MapC.adv (h:MapC E w b n v) (hb:Below w.heap.size w w') : MapC E w' b n v:=h.kept (only_of_below hb none) (by simp)
theorem MapC.alloc (h:MapC E w b n v) (o:Obj) : MapC E (w.alloc o) b n v:=h.kept (World.grownBy_alloc w o none) (by simp)
theorem MapC.drewN (h:MapC E w b n v) (q:Nat) : MapC E (w.drewN q) b n v:=h
theorem MapC.notBlk {q:Nat} {t:TypeId} {cs:Array Value} (h:MapC E w b n v) (hB:Blk w q t cs) : q ≠ b:=by
 obtain ⟨f,h1,h2⟩:=h
 exact fun e=>by
  subst e
  obtain ⟨D,⟨es,clock,h3,_⟩,_⟩:=h1
  unfold Blk at hB
  rw [h3] at hB
  cases hB
theorem MapC.update [DecidableEq κ] (h:MapC E w b n v) (ht:P.underlying t = some (.map k e)) (hn:n < maxLen) (x:κ) (hx:E.good x) :
  ∃ w',(Instr.mapUpdate t (.map (some b)) (E.val x) v).run P w = .ok () w'∧MapC E w' b (n+1) v∧w.grownBy w' (some b):=by
 obtain ⟨f,h1,h2⟩:=h
 obtain ⟨w',hrun,h3,h4⟩:=h1.update (g:=fun y=>if y = x then some v else f y) ht hn hx v (if_pos rfl) (fun y hy=>if_neg hy)
 refine ⟨w',hrun,⟨_,h3,fun y u hu=>?_⟩,h4⟩
 by_cases e:y = x
 ·
  simp only [e,if_true] at hu
  injection hu with hu
  exact hu.symm
 ·
  simp only [e,if_false] at hu
  exact h2 y u hu
end
section
variable {P:Program} {k t e:TypeId} {κ:Type} {E:KeyE P k κ} {w:World} {ops:Array Oper} {rest:List Oper} {o:Oper} {a:Act} {Q:Exit→Act→World→Prop} {b n:Nat} {v:Value}
theorem wpList_askC (hg:o.guard = none) (m y : Operand) (t:TypeId) (hop:o.op = Op.lookup t m y true) (ht:P.underlying t = some (.map k e)) (hz : (zeroValue e).run P w = .ok v w) (h:MapC E w b n v) (x:κ) (hx:E.good x)
  (hm:a.eval m = .map (some b)) (hy:a.eval y = E.val x) (hK:∀ c,wpList P ops Q rest (a.put o.dst (.tuple #[v,.bool c])) w) : wpList P ops Q (o :: rest) a w:=by
 obtain ⟨f,h1,h2⟩:=h
 refine wpList_ask (E:=E) hg m y t hop ht v hz h1 x hx hm hy v (f x).isSome ?_ rfl (hK _)
 cases hf:f x with
 | none=>rfl
 | some u=>exact h2 x u hf
theorem wpList_getC (hg:o.guard = none) (m y : Operand) (t:TypeId) (hop:o.op = Op.lookup t m y false) (ht:P.underlying t = some (.map k e)) (hz : (zeroValue e).run P w = .ok v w) (h:MapC E w b n v) (x:κ) (hx:E.good x)
  (hm:a.eval m = .map (some b)) (hy:a.eval y = E.val x) (hK:wpList P ops Q rest (a.put o.dst v) w) : wpList P ops Q (o :: rest) a w:=by
 obtain ⟨f,h1,h2⟩:=h
 refine wpList_get (E:=E) hg m y t hop ht v hz h1 x hx hm hy v ?_ hK
 cases hf:f x with
 | none=>rfl
 | some u=>exact h2 x u hf
theorem wpList_setC [DecidableEq κ] (hg:o.guard = none) (m y u : Operand) (t:TypeId) (hop:o.op = Op.mapUpdate t m y u) (ht:P.underlying t = some (.map k e)) (h:MapC E w b n v) (hn:n < maxLen) (x:κ) (hx:E.good x)
  (hm:a.eval m = .map (some b)) (hy:a.eval y = E.val x) (hu:a.eval u = v)
  (hK:∀ w',MapC E w' b (n+1) v→w.grownBy w' (some b)→wpList P ops Q rest (a.put o.dst undef) w') : wpList P ops Q (o :: rest) a w:=by
 refine wpList_plain hg fun K' hK'=>?_
 obtain ⟨w',hrun,r1,r2⟩:=h.update ht hn x hx
 unfold Oper.wp
 simp [execOp,hop,hm,hy,hu,hrun,Result.andThen]
 exact hK' _ _ (hK w' r1 r2)
end
structure AlmIn (w:World) (base q gy gd N : Nat) : Prop where
 blk:Blk w q 280 #[.slice none 0 0,.map (some gy),.map (some gd)]
 y:MapC keyI w gy N (.slice none 0 0)
 d:MapC keyI w gd N (.bool false)
 ne:gy ≠ gd
 ly:base≤gy
 ld:base≤gd
 pos:0 < base
theorem AlmIn.adv {w w' : World} {base q gy gd N : Nat} (h:AlmIn w base q gy gd N) (hb:Below w.heap.size w w') : AlmIn w' base q gy gd N:=⟨h.blk.adv hb,h.y.adv hb,h.d.adv hb,h.ne,h.ly,h.ld,h.pos⟩
theorem AlmIn.mono {w:World} {base q gy gd N M : Nat} (h:AlmIn w base q gy gd N) (hn:N≤M) : AlmIn w base q gy gd M:=⟨h.blk,h.y.mono hn,h.d.mono hn,h.ne,h.ly,h.ld,h.pos⟩
theorem AlmIn.kept {w w' : World} {base q gy gd N : Nat} {g:Nat} (h:AlmIn w base q gy gd N) (hg:w.grownBy w' (some g)) (h1:q ≠ g) (h2:gy ≠ g) (h3:gd ≠ g) : AlmIn w' base q gy gd N :=
 ⟨h.blk.grown hg (fun e=>h1 (by injection e)),h.y.kept hg (fun e=>h2 (by injection e)),h.d.kept hg (fun e=>h3 (by injection e)),h.ne,h.ly,h.ld,h.pos⟩
theorem AlmIn.setY {w w' : World} {base q gy gd N : Nat} (h:AlmIn w base q gy gd N) (hm:MapC keyI w' gy (N+1) (.slice none 0 0)) (hg:w.grownBy w' (some gy)) : AlmIn w' base q gy gd (N+1) :=
 ⟨h.blk.grown hg (fun e=>h.y.notBlk h.blk (by injection e)),hm,(h.d.kept hg (fun e=>h.ne (by injection e with e; exact e.symm))).mono (by omega),h.ne,h.ly,h.ld,h.pos⟩
theorem AlmIn.setD {w w' : World} {base q gy gd N : Nat} (h:AlmIn w base q gy gd N) (hm:MapC keyI w' gd (N+1) (.bool false)) (hg:w.grownBy w' (some gd)) : AlmIn w' base q gy gd (N+1) :=
 ⟨h.blk.grown hg (fun e=>h.d.notBlk h.blk (by injection e)),(h.y.kept hg (fun e=>h.ne (by injection e))).mono (by omega),hm,h.ne,h.ly,h.ld,h.pos⟩
theorem zeroBoolM (w:World) : (zeroValue 4).run Tryz.prog w = .ok (.bool false) w:=by kernel_rfl
theorem zeroSlI (w:World) : (zeroValue 22).run Tryz.prog w = .ok (.slice none 0 0) w:=by kernel_rfl
section
set_option maxHeartbeats 4000000
set_option maxRecDepth 100000
theorem sortNilM (W:World) : Calls Tryz.prog 76 #[.slice none 0 0] W fun e w'=>e = .returned (.tuple #[])∧w' = W:=AnyM.slices_Sort_int_none Tryz.sortI none 0 W
theorem compactNilM (w:World) : Calls Tryz.prog 246 #[.slice none 0 0] w fun e w'=>e = .returned (.slice none 0 0)∧w = w':=by
 go_enter Tryz.func246,Tryz.ntmps246
 go_wp2
 go_ret
 exact ⟨rfl,rfl⟩
theorem containsNilM (d:Int) (w:World) : Calls Tryz.prog 196 #[.slice none 0 0,.int .i64 d] w fun e w'=>e = .returned (.bool false)∧w = w':=by
 go_enter Tryz.func196,Tryz.ntmps196
 go_wp2
 refine wp_loop_rounds 1 ?_
 rw [rounds_succ]
 go_wp2
 go_ret
 exact ⟨rfl,rfl⟩
theorem collectNilM (y:Int) (w:World) (h0:1000≤y) (h1:y≤3000) : Calls Tryz.prog 242 #[.slice none 0 0,.int .i64 y,.int .i64 y] w fun e w'=>e = .returned (.slice none 0 0)∧w = w':=by
 have hy2:¬ y+1≤y:=by omega
 go_enter Tryz.func242,Tryz.ntmps242
 go_wp2_with fail
 refine wp_loop_rounds 2 ?_
 rw [rounds_succ]
 go_wp2_with fail
 refine wp_loop_rounds 1 ?_
 rw [rounds_succ]
 go_wp2_with fail
 rw [rounds_succ]
 go_wp2_with fail
 refine (sortNilM _).mono ?_
 rintro e w' ⟨rfl,rfl⟩
 go_wp2_with fail
 refine (compactNilM _).mono ?_
 rintro e w' ⟨rfl,rfl⟩
 go_wp2
 go_ret
 exact ⟨rfl,rfl⟩
theorem holsNilM (y:Int) (w:World) (h0:1000≤y) (h1:y≤3000) : Calls Tryz.prog 230 #[.slice none 0 0,.int .i64 y] w fun e w'=>∃ n : Int,e = .returned (.tuple #[.slice none 0 0,.int .i64 n])∧w = w':=by
 by_cases hc:y < 1970
 ·
  have q1:decide (y < 1970) = true:=by simpa using hc
  go_enter Tryz.func230,Tryz.ntmps230
  go_wp2_with fail
  refine (validH 0 _).mono ?_
  rintro e w' ⟨rfl,rfl⟩
  go_wp2
  go_ret2
  exact ⟨2,rfl,rfl⟩
 ·
  have q1:decide (y < 1970) = false:=by simpa using hc
  by_cases hd:2199 < y
  ·
   have q2:decide (2199 < y) = true:=by simpa using hd
   go_enter Tryz.func230,Tryz.ntmps230
   go_wp2_with fail
   refine (validH 0 _).mono ?_
   rintro e w' ⟨rfl,rfl⟩
   go_wp2
   go_ret2
   exact ⟨2,rfl,rfl⟩
  ·
   have q2:decide (2199 < y) = false:=by simpa using hd
   go_enter Tryz.func230,Tryz.ntmps230
   go_wp2_with fail
   refine (validH 0 _).mono ?_
   rintro e w' ⟨rfl,rfl⟩
   go_wp2_with fail
   refine (collectNilM y _ h0 h1).mono ?_
   rintro e w' ⟨rfl,rfl⟩
   go_wp2
   go_ret2
   exact ⟨0,rfl,rfl⟩
def YearPost (base q gy gd N : Nat) (w:World) (e:Ending) (w' : World) : Prop:=e = .returned (.slice none 0 0)∧AlmIn w' base q gy gd (N+1)∧w.grownBy w' (some gy)
theorem yearM (base q gy gd N : Nat) (y:Int) (w:World) (h:AlmIn w base q gy gd N) (h0:1000≤y) (h1:y≤3000) (hN:N≤100000000) : Calls Tryz.prog 197 #[.pointer (some ⟨q,0,none⟩),.int .i64 y] w (YearPost base q gy gd N w):=by
 have HH:=Lib.hid h
 have hB:=h.blk
 have hlt:=hB.lt
 have hY:=h.y
 have HW:Hid ((Lit.int .i64 y).wf = true):=wf64 (by omega) (by omega)
 have s0:=hB.cell 0
 have s1:=hB.cell 1
 have s2:=hB.cell 2
 simp only [nqg,nqh,nqi] at s0 s1 s2
 clear h hB
 go_enter Tryz.func197,Tryz.ntmps197
 go_wp2_with (at_lookup; go_loud (refine wpList_askC (E:=keyI) (by rfl) _ _ 278 (by rfl) Tryz.underlying278 (zeroSlI _) hY y HW.out (by rfl) (by rfl) ?_); intro c; cases c)
 ·
  go_wp2_with fail
  refine (holsNilM y _ h0 h1).mono ?_
  rintro e w' ⟨n,rfl,rfl⟩
  go_wp2_with (at_mapUpdate; go_loud (refine wpList_setC (E:=keyI) (by rfl) _ _ _ 278 (by rfl) Tryz.underlying278 hY (by unfold maxLen; omega) y HW.out (by rfl) (by rfl) (by rfl) ?_); intro w4 hm4 hg4)
  go_ret
  exact ⟨rfl,HH.out.setY hm4 hg4,hg4⟩
 ·
  go_wp2
  go_ret
  exact ⟨rfl,HH.out.mono (by omega),only_refl _ _⟩
def HolPost (base q gy gd N : Nat) (w:World) (e:Ending) (w' : World) : Prop:=e = .returned (.bool false)∧AlmIn w' base q gy gd (N+4)∧∃ w1,w.grownBy w1 (some gy)∧w1.grownBy w' (some gd)
theorem holidayM (base q gy gd N : Nat) (day:Int) (w:World) (hL:Lens w) (h:AlmIn w base q gy gd N) (hd : -1000≤day∧day≤90000) (hN:N≤10000000) : Calls Tryz.prog 150 #[.pointer (some ⟨q,0,none⟩),.int .i64 day] w (HolPost base q gy gd N w):=by
 have HH:=Lib.hid h
 have hB:=h.blk
 have hlt:=hB.lt
 have hD:=h.d
 obtain ⟨d1,d2⟩:=hd
 have HW:Hid ((Lit.int .i64 day).wf = true):=wf64 (by omega) (by omega)
 have s0:=hB.cell 0
 have s1:=hB.cell 1
 have s2:=hB.cell 2
 simp only [nqg,nqh,nqi] at s0 s1 s2
 clear h hB
 go_enter Tryz.func150,Tryz.ntmps150
 go_wp2_with (at_lookup; go_loud (refine wpList_askC (E:=keyI) (by rfl) _ _ 184 (by rfl) Tryz.underlying184 (zeroBoolM _) hD day HW.out (by rfl) (by rfl) ?_); intro c; cases c)
 ·
  by_cases hin:0≤day∧day≤84005
  ·
   obtain ⟨i1,i2⟩:=hin
   go_wp2_with fail
   refine (dateK day _ i1 i2 hL).mono ?_
   rintro e w' ⟨y,m,d,rfl,y1,y2,rfl⟩
   go_wp2
   go_loopw [7,12] (fun ans n wr=>∃ k:Nat,k≤3∧ans = .bool false∧n = .int .i64 (y - 1+k)∧AlmIn wr base q gy gd (N+k)∧w.grownBy wr (some gy)) (fun _ n _=>(y+2 - RowKit.intOf n).toNat)
   case atStart=>exact ⟨0,by omega,rfl,by simp,HH.out,only_refl _ _⟩
   case round =>
    obtain ⟨k,hk,rfl,rfl,hal,hg⟩:=hrel
    have HA:=Lib.hid hal
    have hBr:=hal.blk
    have hltr:=hBr.lt
    clear s0 s1 s2
    have s0:=hBr.cell 0
    have s1:=hBr.cell 1
    have s2:=hBr.cell 2
    simp only [nqg,nqh,nqi] at s0 s1 s2
    clear hal hBr
    by_cases hk3:k < 3
    ·
     have hle:y - 1+(k:Int)≤y+1:=by omega
     go_wp2_with fail
     refine (yearM base q gy gd (N+k) (y - 1+k) _ HA.out (by omega) (by omega) (by omega)).mono ?_
     rintro e w2 ⟨rfl,hA2,hg2⟩
     go_wp2_with fail
     refine (containsNilM day _).mono ?_
     rintro e w3 ⟨rfl,rfl⟩
     go_wp2
     go_roundw
     case rel=>exact ⟨k+1,by omega,rfl,by congr 1; push_cast; omega,hA2,only_trans hg hg2⟩
     case measure=>simp [RowKit.intOf]; omega
    ·
     have hle:¬ y - 1+(k:Int)≤y+1:=by omega
     have hDr:=HA.out.d
     go_wp2_with (at_mapUpdate; go_loud (refine wpList_setC (E:=keyI) (by rfl) _ _ _ 184 (by rfl) Tryz.underlying184 hDr (by unfold maxLen; omega) day HW.out (by rfl) (by rfl) (by rfl) ?_); intro w4 hm4 hg4)
     go_ret
     exact ⟨rfl,(HA.out.setD hm4 hg4).mono (by omega),_,hg,hg4⟩
  ·
   have hno:day < 0 ∨ 84005 < day:=by omega
   clear hin
   go_wp2_with fail
   refine (dateK_no day _ hno).mono ?_
   rintro e w' ⟨rfl,rfl⟩
   go_wp2_with (at_mapUpdate; go_loud (refine wpList_setC (E:=keyI) (by rfl) _ _ _ 184 (by rfl) Tryz.underlying184 hD (by unfold maxLen; omega) day HW.out (by rfl) (by rfl) (by rfl) ?_); intro w4 hm4 hg4)
   go_ret
   exact ⟨rfl,(HH.out.setD hm4 hg4).mono (by omega),_,only_refl _ _,hg4⟩
 ·
  go_wp2
  go_ret
  exact ⟨rfl,HH.out.mono (by omega),_,only_refl _ _,only_refl _ _⟩
end
end Go.Proofs.YtopekilofdadnaaGreatDoor
namespace Go.Proofs.YtopekilofdadnaaGreatDoor
open Go.RowKit Go.Maps Go.Sort Go.Shelf
def encNm (x:ByteArray) : List Value:=[.string x]
def bytesOf (l:List UInt8) : ByteArray:=⟨l.toArray⟩
theorem bytesOf_inj {a b : List UInt8} (h:bytesOf a = bytesOf b) : a = b:=by
 unfold bytesOf at h
 injection h with h
 simpa using h
theorem keys_of_mapS {w:World} {b n : Nat} {D:DataW Value} {f:ByteArray→Option Value} (h:w.ownsMap Tryz.prog 9 heldE b n D) (hD:MapD keyS D f) :
  (strKeys D).Nodup∧(∀ x,x ∈ strKeys D ↔ (x.length≤maxLen∧(f (bytesOf x)).isSome = true))∧Maps.size D≤n∧(strKeys D).length = Maps.size D:=by
 have hsz:Maps.size D≤n:=by
  obtain ⟨es,clock,_,_,hn',rfl⟩:=h
  rw [Maps.size_eq,length_sorted]
  simpa using hn'
 obtain ⟨es,hE,hpw,_⟩:=h.entries keyS.law
 obtain ⟨es',hE',hko⟩:=h.keysOf
 obtain rfl:es = es':=by rw [hE] at hE'; simpa using hE'
 subst hE
 have hk:∀ p ∈ es,∃ x,p.1 = .string x∧x.length≤maxLen:=fun p hp=>by
  obtain ⟨v,hv⟩:=hko p hp
  obtain ⟨x,_,h2,h3⟩:=Maps.keyOf_str Tryz.underlying9 hv
  exact ⟨x,h2,h3⟩
 have hlit:∀ x:List UInt8,keyS.lit (bytesOf x) = .string x:=fun x=>by simp [keyS,bytesOf]
 have hgood:∀ x:List UInt8,x.length≤maxLen→keyS.good (bytesOf x):=fun x hx=>by
  show (bytesOf x).size≤maxLen
  show x.toArray.size≤maxLen
  simpa using hx
 refine ⟨?_,fun x=>?_,hsz,by simp [strKeys,Maps.size]⟩
 ·
  show (es.map fun p=>strOf p.1).Nodup
  refine List.pairwise_map.2 (hpw.imp_of_mem fun {p q} hp' hq' hne e=>hne ?_)
  obtain ⟨a,ha,_⟩:=hk p hp'
  obtain ⟨b,hb,_⟩:=hk q hq'
  rw [ha,hb] at e ⊢
  exact congrArg _ e
 ·
  show x ∈ es.map (fun p=>strOf p.1) ↔ _
  rw [List.mem_map]
  constructor
  ·
   rintro ⟨p,hp,rfl⟩
   obtain ⟨a,ha,hw⟩:=hk p hp
   rw [ha]
   refine ⟨hw,?_⟩
   rw [show strOf (Lit.string a) = a from rfl,← hD.has _ (hgood a hw),hlit,has_eq,List.any_eq_true]
   exact ⟨p,hp,by rw [ha]; simp [Lit.sameKey]⟩
  ·
   rintro ⟨hw,hs⟩
   rw [← hD.has _ (hgood x hw),hlit,has_eq,List.any_eq_true] at hs
   obtain ⟨p,hp,hs⟩:=hs
   obtain ⟨a,ha,_⟩:=hk p hp
   rw [ha] at hs
   exact ⟨p,hp,by rw [ha]; simpa [Lit.sameKey,strOf] using hs⟩
def KeysPostS (f:ByteArray→Option Value) (n:Nat) (W:World) (e:Ending) (w' : World) : Prop :=
 ∃ (v:Value) (ks:List ByteArray),e = .returned v∧ks.Nodup∧(∀ x,x ∈ ks ↔ (x.size≤maxLen∧(f x).isSome = true))∧Own encNm 1 9 w' W.heap.size v ks∧Below W.heap.size W w'∧ks.length≤n
theorem flat_encNm : ∀ ks : List (List UInt8),(ks.map bytesOf).flatMap encNm = ks.map encStr
 | []=>rfl
 | k :: ks=>by rw [List.map_cons,List.flatMap_cons,List.map_cons,flat_encNm ks]; rfl
theorem sortsS (m:Nat) : AnyZ.SortsIn Tryz.prog Tryz.sortedS_ren Fence.wide m :=
  ⟨fun blk off cap ss W hH hblk hsz=>callsIn_wide.2 (AnyM.slices_Sort_string Tryz.sortS blk off cap ss W hH hblk hsz),
   fun p cap W=>callsIn_wide.2 (AnyM.slices_Sort_string_none Tryz.sortS p cap W)⟩
theorem keysN_in (mb:Option Nat) (W:World) : Calls Tryz.prog 50 #[.map mb] W fun e w'=>e = .returned (.func (.func 89) #[] #[.pointer (some ⟨W.heap.size,0,none⟩)])∧w' = W.alloc (.cells #[.map mb] 138) :=
 callsIn_wide.1 (AnyZ.keys_in Tryz.keysN Fence.wide 5 trivial rfl mb W)
set_option maxHeartbeats 1000000 in
theorem sortedN_ {n b : Nat} {f:ByteArray→Option Value} (w:World) (h:MapAt keyS w b n f) (hn:n≤4294967296) :
  Calls Tryz.prog 49 #[.func (.func 89) #[] #[.pointer (some ⟨w.heap.size,0,none⟩)]] (w.alloc (.cells #[.map (some b)] 138)) (KeysPostS f n (w.alloc (.cells #[.map (some b)] 138))):=by
 obtain ⟨D,hown,hD⟩:=h
 obtain ⟨k1,k2,k3,k4⟩:=keys_of_mapS hown hD
 have hbl:=hown.lt
 have hseq:SeqGives Fence.wide 2 Tryz.prog 89 #[.pointer (some ⟨w.heap.size,0,none⟩)] encStr (fun ss=>ss.Perm (strKeys D)) (Maps.size D) (w.alloc (.cells #[.map (some b)] 138)) :=
  AnyZ.keys_gives (ρ:=Tryz.keysN_ren) { Tryz.keysN with } Fence.wide _ trivial rfl (by omega) w.heap.size b n D _ (by simp) (by simp) (by
   obtain ⟨es,clock,hb,Ft,hs,hD⟩:=hown
   exact ⟨es,clock,(Below.heap_alloc _ _ b hbl).trans hb,Ft,hs,hD⟩)
 have cS:=AnyZ.sorted_in Tryz.sortedS Fence.wide 5 trivial trivial trivial trivial rfl (by omega) (sortsS _) (enters_of Tryz.func88 (by kernel_rfl) rfl) 89 #[.pointer (some ⟨w.heap.size,0,none⟩)] trivial (enters_of Tryz.func89 (by kernel_rfl) rfl) _ _ (by unfold maxLen; omega) (by omega) _ hseq
 refine (callsIn_wide.1 cS).mono ?_
 rintro e w' ⟨v,ss,rfl,hS,hrow,_,hb⟩
 have hp:=(List.mergeSort_perm ss fun x y=>decide (x≤y))
 refine ⟨v,(ss.mergeSort fun x y=>decide (x≤y)).map bytesOf,rfl,?_,fun x=>?_,?_,hb,?_⟩
 ·
  refine List.pairwise_map.2 (((hp.trans hS).nodup_iff.2 k1).imp fun {a b} hab e=>hab (bytesOf_inj e))
 ·
  rw [List.mem_map]
  constructor
  ·
   rintro ⟨y,hy,rfl⟩
   obtain ⟨h1,h2⟩:=(k2 y).1 ((hp.trans hS).mem_iff.1 hy)
   exact ⟨by show y.toArray.size≤maxLen; simpa using h1,h2⟩
  ·
   rintro ⟨h1,h2⟩
   refine ⟨x.data.toList,(hp.trans hS).mem_iff.2 ((k2 _).2 ⟨by show x.data.toList.length≤maxLen; rw [Array.length_toList]; exact h1,?_⟩),?_⟩
   ·
    rw [show bytesOf x.data.toList = x from by unfold bytesOf; simp]; exact h2
   ·
    unfold bytesOf; simp
 ·
  unfold Own
  rw [flat_encNm,List.length_map,hp.length_eq]
  exact hrow
 ·
  rw [List.length_map,hp.length_eq,hS.length_eq,k4]
  exact k3
end Go.Proofs.YtopekilofdadnaaGreatDoor
