/- Joined texts: Data Data2 RowI. Conditions: as stated. -/
import Derived.Below
import Derived.Laws.OwnMore
import Derived.Deep.AppendLies
import Derived.Deep.Draws
import Derived.WalkKit
import Derived.Deep.QuietTactic
import Derived.BigQuiet
import Derived.Deep.OwnRows
import Derived.BigRegion
import Derived.Test.YtlhkojcmcmkmaaaGreatRows
namespace Go.Proofs.YtlhkojcmcmkmaaaGreat
theorem nqa : type_of% @List.getElem_toArray := @List.getElem_toArray
theorem nqb : type_of% @List.getElem_cons_succ := @List.getElem_cons_succ
theorem nqc : type_of% @List.getElem_cons_zero := @List.getElem_cons_zero
theorem nqd : type_of% @List.setIfInBounds_toArray := @List.setIfInBounds_toArray
theorem nqe : type_of% @List.set_cons_succ := @List.set_cons_succ
theorem nqf : type_of% @List.set_cons_zero := @List.set_cons_zero
theorem nqg : type_of% @List.getElem?_toArray := @List.getElem?_toArray
theorem nqh : type_of% @List.getElem?_cons_zero := @List.getElem?_cons_zero
theorem nqi : type_of% @List.getElem?_cons_succ := @List.getElem?_cons_succ
theorem nqj : type_of% @List.mem_cons := @List.mem_cons
theorem nqk : type_of% @List.not_mem_nil := @List.not_mem_nil
end Go.Proofs.YtlhkojcmcmkmaaaGreat
namespace Go.Proofs.YtlhkojcmcmkmaaaGreat
open Go.RowKit
def SliceOf {α:Type} (enc:α→List Value) (k:Nat) (w:World) (B:Nat) (A:Option Addr) (xs:List α) : Prop :=
 xs ≠ []→∃ b off,A = some ⟨b,off,none⟩∧b < B∧∀ i x,xs[i]? = some x→∀ j v,(enc x)[j]? = some v→w.cell? ⟨b,off+i * k+j,none⟩ = some v
section
variable {α:Type} {enc:α→List Value} {k:Nat} {w w':World} {B B':Nat} {A:Option Addr} {xs:List α}
theorem SliceOf.nil_ : SliceOf enc k w B A []:=fun h=>absurd rfl h
theorem SliceOf.keep (h:SliceOf enc k w B A xs) (hk : ∀ p : Addr,p.block < B→w'.cell? p = w.cell? p) : SliceOf enc k w' B A xs:=fun hx=>by
 obtain ⟨b,off,e,hb,hc⟩:=h hx
 exact ⟨b,off,e,hb,fun i x hi j v hj=>(hk _ hb).trans (hc i x hi j v hj)⟩
theorem SliceOf.more (h:SliceOf enc k w B A xs) (hB:B≤B') : SliceOf enc k w B' A xs:=fun hx=>by
 obtain ⟨b,off,e,hb,hc⟩:=h hx
 exact ⟨b,off,e,by omega,hc⟩
theorem SliceOf.below (h:SliceOf enc k w B A xs) (hb:Below B w w') : SliceOf enc k w' B A xs:=h.keep fun _ hp=>hb.cell hp
theorem SliceOf.at_ (h:SliceOf enc k w B A xs) {i:Nat} (hi:i < xs.length) :
  ∃ b off,A = some ⟨b,off,none⟩∧b < B∧∀ j v,(enc xs[i])[j]? = some v→w.cell? ⟨b,off+i * k+j,none⟩ = some v:=by
 have hx:xs ≠ []:=by intro e; subst e; simp at hi
 obtain ⟨b,off,e,hb,hc⟩:=h hx
 exact ⟨b,off,e,hb,fun j v hj=>hc i _ (List.getElem?_eq_getElem hi) j v hj⟩
end
theorem below_drewN {B:Nat} {a w : World} (h:Below B a w) (n:Nat) : Below B a (w.drewN n):=⟨h.os,h.tape,h.output,h.size,h.block⟩
theorem only_drewN {a w : World} {row:Option Nat} (h:a.grownBy w row) (n:Nat) : a.grownBy (w.drewN n) row:=⟨h.os,h.tape,h.output,h.size,h.block⟩
theorem only_drew {a w : World} {row:Option Nat} (h:a.grownBy w row) : a.grownBy w.drew row:=⟨h.os,h.tape,h.output,h.size,h.block⟩
theorem only_alloc {a w : World} {row:Option Nat} (h:a.grownBy w row) (o:Obj) : a.grownBy (w.alloc o) row :=
 ⟨h.os,h.tape,h.output,Nat.le_trans h.size (by simp),fun i hi hne=>(Below.heap_alloc w o i (Nat.lt_of_lt_of_le hi h.size)).trans (h.block i hi hne)⟩
theorem only_setCell {a w : World} {g:Nat} (h:a.grownBy w (some g)) {p:Addr} (hp:p.block = g ∨ a.heap.size≤p.block) (u:Value) : a.grownBy (w.setCell p u) (some g) :=
 ⟨h.os,h.tape,h.output,by simpa [World.setCell] using h.size,fun i hi hne=>(Below.heap_setCell w p u i (by
  rintro rfl
  rcases hp with hp | hp
  ·
   exact hne (by rw [hp])
  ·
   omega)).trans (h.block i hi hne)⟩
theorem only_of_below {a w : World} (h:Below a.heap.size a w) (row:Option Nat) : a.grownBy w row:=⟨h.os,h.tape,h.output,h.size,fun i hi _=>h.block i hi⟩
theorem only_refl (a:World) (row:Option Nat) : a.grownBy a row:=⟨rfl,rfl,rfl,Nat.le_refl _,fun _ _ _=>rfl⟩
theorem only_trans {a b c : World} {row:Option Nat} (h:a.grownBy b row) (k:b.grownBy c row) : a.grownBy c row :=
 ⟨k.os.trans h.os,k.tape.trans h.tape,k.output.trans h.output,Nat.le_trans h.size k.size,fun i hi hne=>(k.block i (Nat.lt_of_lt_of_le hi h.size) hne).trans (h.block i hi hne)⟩
theorem only_then {a b c : World} {row row' : Option Nat} (h:a.grownBy b row) (k:b.grownBy c row') (hr : ∀ g,row' = some g→a.heap.size≤g ∨ row = some g) : a.grownBy c row :=
 ⟨k.os.trans h.os,k.tape.trans h.tape,k.output.trans h.output,Nat.le_trans h.size k.size,fun i hi hne=>(k.block i (Nat.lt_of_lt_of_le hi h.size) (fun e=>by
  rcases hr i e.symm with h1 | h1
  ·
   omega
  ·
   exact hne h1.symm)).trans (h.block i hi hne)⟩
theorem only_below {a w : World} {row:Option Nat} (h:a.grownBy w row) {B:Nat} (hB:B≤a.heap.size) (hr : ∀ g,row = some g→B≤g) : Below B a w :=
 ⟨h.os,h.tape,h.output,h.size,fun i hi=>h.block i (by omega) (fun e=>by have:=hr i e.symm; omega)⟩
def Blk (w:World) (g:Nat) (t:TypeId) (cs:Array Value) : Prop:=w.heap[g]? = some (.cells cs t (0,0))
section
variable {w w':World} {g:Nat} {t:TypeId} {cs:Array Value}
theorem Blk.lt (h:Blk w g t cs) : g < w.heap.size:=by
 rcases Nat.lt_or_ge g w.heap.size with hlt | hge
 ·
  exact hlt
 ·
  unfold Blk at h; rw [Array.getElem?_eq_none hge] at h; cases h
theorem Blk.cell (h:Blk w g t cs) (i:Nat) : w.cell? ⟨g,i,none⟩ = cs[i]?:=cell_of_row w g i cs t (0,0) h
theorem Blk.frozen (h:Blk w g t cs) (i:Nat) : w.frozen? ⟨g,i,none⟩ = false:=by
 unfold Blk at h
 simp [World.frozen?,h]
theorem Blk.new (w:World) (t:TypeId) (cs:Array Value) : Blk (w.alloc (.cells cs t)) w.heap.size t cs:=heap_alloc_new w _
theorem Blk.drewN (h:Blk w g t cs) (n:Nat) : Blk (w.drewN n) g t cs:=h
theorem Blk.alloc (h:Blk w g t cs) (o:Obj) : Blk (w.alloc o) g t cs:=(Below.heap_alloc w o g h.lt).trans h
theorem Blk.set_ (h:Blk w g t cs) (i:Nat) (u:Value) : Blk (w.setCell ⟨g,i,none⟩ u) g t (cs.setIfInBounds i u):=by
 unfold Blk at h ⊢
 simp [World.setCell,Array.getElem?_modify,h]
theorem Blk.far (h:Blk w g t cs) {p:Addr} (hp:g ≠ p.block) (u:Value) : Blk (w.setCell p u) g t cs:=(Below.heap_setCell w p u g hp).trans h
theorem Blk.below {B:Nat} (h:Blk w g t cs) (hb:Below B w w') (hg:g < B) : Blk w' g t cs:=(hb.block g hg).trans h
theorem Blk.grown {row:Option Nat} (h:Blk w g t cs) (hb:w.grownBy w' row) (hg:some g ≠ row) : Blk w' g t cs:=(hb.block g h.lt hg).trans h
end
def encI (x:Int) : List Value:=[.int .i64 x]
def I64 (x:Int) : Prop:=-9223372036854775808≤x∧x≤9223372036854775807
theorem SliceOf.grown {α:Type} {enc:α→List Value} {k:Nat} {w w' : World} {B:Nat} {A:Option Addr} {xs:List α} {row:Option Nat} (h:SliceOf enc k w B A xs) (hg:w.grownBy w' row) (hB:B≤w.heap.size) (hr : ∀ g,row = some g→B≤g) : SliceOf enc k w' B A xs :=
 h.below (only_below hg hB hr)
def Own {α:Type} (enc:α→List Value) (k:Nat) (e:TypeId) (w:World) (base:Nat) (v:Value) (xs:List α) : Prop:=w.ownsRow base e k v xs.length (xs.flatMap enc)
section
variable {α:Type} {enc:α→List Value} {k:Nat} {e:TypeId} {w w':World} {base:Nat} {v:Value} {xs:List α}
theorem flatMap_at (hk : ∀ x,(enc x).length = k) : ∀ (xs:List α) (i j : Nat) (x:α) (u:Value),xs[i]? = some x→(enc x)[j]? = some u→(xs.flatMap enc)[i * k+j]? = some u:=by
 intro xs
 induction xs with
 | nil=>intro i j x u h; simp at h
 | cons a xs ih =>
  intro i j x u h1 h2
  rw [List.flatMap_cons]
  cases i with
  | zero =>
   simp at h1; subst h1
   have hj:j < (enc a).length:=(List.getElem?_eq_some_iff.1 h2).1
   rw [Nat.zero_mul,Nat.zero_add,List.getElem?_append_left hj,h2]
  | succ i =>
   simp at h1
   rw [List.getElem?_append_right (by rw [hk,Nat.succ_mul]; omega)]
   rw [hk,show (i+1) * k+j - k = i * k+j by rw [Nat.succ_mul]; omega]
   exact ih i j x u h1 h2
theorem Own.nil_ (w:World) (base:Nat) : Own enc k e w base (.slice none 0 0) ([] : List α):=World.ownsRow_nil w base e k
theorem Own.kept {row:Option Nat} (h:Own enc k e w base v xs) (hg:w.grownBy w' row) (hr : ∀ g,row = some g→g < base) : Own enc k e w' base v xs:=by
 refine World.ownsRow.kept h hg ?_
 cases hv:v.ownBlock with
 | none=>exact .inl rfl
 | some g =>
  right
  intro he
  have h1:=h.lt g hv
  have h2:=hr g he.symm
  omega
theorem Own.weaken {base' : Nat} (h:Own enc k e w base v xs) (hb:base'≤base) : Own enc k e w base' v xs:=by
 refine ⟨h.1,?_⟩
 rcases h.2 with h0 | ⟨g,cap,cur,hv,hbg,r⟩
 ·
  exact .inl h0
 ·
  exact .inr ⟨g,cap,cur,hv,by omega,r⟩
theorem Own.alloc (h:Own enc k e w base v xs) (o:Obj) : Own enc k e (w.alloc o) base v xs:=World.ownsRow.alloc h o
theorem Own.drewN (h:Own enc k e w base v xs) (n:Nat) : Own enc k e (w.drewN n) base v xs:=h
theorem Own.setCell (h:Own enc k e w base v xs) {p:Addr} (hp : ∀ g,v.ownBlock = some g→g ≠ p.block) (u:Value) : Own enc k e (w.setCell p u) base v xs:=by
 have hg:w.grownBy (w.setCell p u) (some p.block):=only_setCell (only_refl _ _) (.inl rfl) u
 refine World.ownsRow.kept h hg ?_
 cases hv:v.ownBlock with
 | none=>exact .inl rfl
 | some g =>
  right
  intro he
  injection he with he
  exact hp g hv he
theorem Own.block_lt (h:Own enc k e w base v xs) {g:Nat} (hg:v.ownBlock = some g) : base≤g∧g < w.heap.size:=h.lt g hg
theorem Own.form (h:Own enc k e w base v xs) (hk : ∀ x,(enc x).length = k) : ∃ A c,v = .slice A xs.length c∧SliceOf enc k w w.heap.size A xs∧(∀ a,A = some a→base≤a.block)∧xs.length≤maxLen:=by
 rcases h.2 with ⟨rfl,h0⟩ | ⟨g,cap,cur,rfl,hb,hg,hn,hm,hs,ht⟩
 ·
  obtain rfl:xs = []:=List.eq_nil_of_length_eq_zero h0
  exact ⟨none,0,rfl,SliceOf.nil_,fun a ha=>(by cases ha),by simp⟩
 ·
  refine ⟨some ⟨g,0,none⟩,cap,rfl,fun hx=>?_,fun a ha=>?_,by omega⟩
  ·
   refine ⟨g,0,rfl,(Array.getElem?_eq_some_iff.1 hg).1,fun i x hi j u hu=>?_⟩
   rw [Nat.zero_add,cell_of_row w g _ cur e (0,0) hg]
   have h1:=flatMap_at hk xs i j x u hi hu
   rw [← ht,List.getElem?_take] at h1
   split at h1
   ·
    simpa using h1
   ·
    cases h1
  ·
   injection ha with ha
   subst ha
   exact hb
end
theorem wpList_append_one {P:Program} {α:Type} {enc:α→List Value} {k:Nat} {e:TypeId} {W:World} {base:Nat} {v:Value} {xs:List α}
  {ops:Array Oper} {rest:List Oper} {o:Oper} {a:Act} {Q:Exit→Act→World→Prop} {cs:Array Value} {H:Nat} (s x:Operand) (t:TypeId) (y:α) (c bytes:Nat) (z:Value)
  (hinfo:(P.info? e).map (fun i=>(i.zero,i.size,i.bytes)) = some (some z,k,bytes)) (ht:P.underlying t = some (.slice e))
  (hown:Own enc k e W base v xs) (hk:∀ x,(enc x).length = k) (hk0:0 < k) (hzs:z.cells.size = k) (h1:∀ u ∈ enc y,u.oneCell' = true)
  (hlen:xs.length < 4294967296) (hby:bytes≤1024) (hbase:base≤W.heap.size)
  (hgd:o.guard = none) (ho:o.op = .call { callee:=.builtin .append,args:=#[s,x],argTypes:=#[t,t] })
  (hs:a.eval s = v) (hx:a.eval x = .slice (some ⟨H,0,none⟩) 1 c) (hH:W.heap.size = H) (hcs:cs = (enc y).toArray)
  (h:∀ v' w',Own enc k e w' base v' (xs++[y])→W.grownBy w' v.ownBlock→wpList P ops Q rest (a.put o.dst v') w') :
  wpList P ops Q (o :: rest) a (W.alloc (.cells cs e)):=by
 subst hcs
 subst hH
 obtain ⟨i,hi,hz,hsz,hb⟩:=info_parts hinfo
 refine wpList_append_own _ hgd s x t ho base e i z k bytes ht hi hz hsz hb hzs hk0 v xs.length (xs.flatMap enc) hs (hown.alloc _) ⟨W.heap.size,0,none⟩ 1 c (enc y) hx (by rw [hk]; omega) ?_ h1
  (by unfold maxLen; omega) ?_ (by simp; omega) ?_
 ·
  intro j u hj
  have hadd:(⟨W.heap.size,0,none⟩ : Addr).add j = ⟨W.heap.size,j,none⟩:=by unfold Addr.add; split <;> simp_all
  rw [hadd,World.cell?_alloc_at _ _ _ _ rfl]
  simpa using hj
 ·
  have:(xs.length+1) * bytes≤4294967296 * 1024:=Nat.mul_le_mul (by omega) hby
  omega
 ·
  intro v' w' h2 h3 _
  refine h v' w' ?_ ?_
  ·
   unfold Own
   rw [List.length_append,List.flatMap_append]
   simpa using h2
  ·
   exact ⟨h3.os,h3.tape,h3.output,Nat.le_trans (by simp) h3.size,fun i hi hne=>(h3.block i (by simp; omega) hne).trans (Below.heap_alloc W _ i hi)⟩
section
variable {P:Program} (w:World)
theorem run_append_of_nil (base:Nat) (t ty e : TypeId) (i:TypeInfo) (size:Nat) (ht:P.underlying t = some (.slice e)) (hi:P.info? e = some i)
  (v:Value) (n:Nat) (xs:List Value) (hown:w.ownsRow base e size v n xs) (c:Nat) : (Builtin.append_ #[t,t] ty #[v,.slice none 0 c]).run P w = .ok v w:=by
 rcases hown.2 with ⟨rfl,rfl⟩ | ⟨g,cap,cur,rfl,_,_,hnc,_⟩
 ·
  simp [Builtin.append_,run_underlying ht,sizeOf,typeInfo,hi,Builtin.lenOf,Builtin.firstCells]
 ·
  simp [Builtin.append_,run_underlying ht,sizeOf,typeInfo,hi,Builtin.lenOf,Builtin.firstCells,hnc,storeCells]
end
theorem wpList_append_list {P:Program} {α:Type} {enc:α→List Value} {k:Nat} {e:TypeId} {W:World} {base B : Nat} {v:Value} {xs ys : List α} {A:Option Addr}
  {ops:Array Oper} {rest:List Oper} {o:Oper} {a:Act} {Q:Exit→Act→World→Prop} {m:Nat} (s x:Operand) (t:TypeId) (c bytes:Nat) (z:Value)
  (hinfo:(P.info? e).map (fun i=>(i.zero,i.size,i.bytes)) = some (some z,k,bytes)) (ht:P.underlying t = some (.slice e))
  (hown:Own enc k e W base v xs) (hys:SliceOf enc k W B A ys) (hk:∀ x,(enc x).length = k) (hk0:0 < k) (hzs:z.cells.size = k) (h1:∀ y,∀ u ∈ enc y,u.oneCell' = true)
  (hlen:xs.length+ys.length≤4294967296) (hby:bytes≤1024) (hbase:base≤W.heap.size)
  (hgd:o.guard = none) (ho:o.op = .call { callee:=.builtin .append,args:=#[s,x],argTypes:=#[t,t] })
  (hs:a.eval s = v) (hx:a.eval x = .slice A m c) (hm:m = ys.length)
  (h:∀ v' w',Own enc k e w' base v' (xs++ys)→W.grownBy w' v.ownBlock→wpList P ops Q rest (a.put o.dst v') w') :
  wpList P ops Q (o :: rest) a W:=by
 subst hm
 obtain ⟨i,hi,hz,hsz,hb⟩:=info_parts hinfo
 have hl:(ys.flatMap enc).length = ys.length * k:=by
  clear hys hx h hlen
  induction ys with
  | nil=>simp
  | cons y ys ih=>rw [List.flatMap_cons,List.length_append,ih,hk,List.length_cons,Nat.succ_mul]; omega
 have hcells:∀ ad,A = some ad→∀ j u,(ys.flatMap enc)[j]? = some u→W.cell? (ad.add j) = some u:=by
  intro ad hA j u hu
  have hj:j < ys.length * k:=by rw [← hl]; exact (List.getElem?_eq_some_iff.1 hu).1
  have hne:ys ≠ []:=by intro e; subst e; simp at hj
  obtain ⟨b,off,hA',hb,hc⟩:=hys hne
  rw [hA'] at hA
  injection hA with hA
  subst hA
  have hadd:(⟨b,off,none⟩ : Addr).add j = ⟨b,off+j,none⟩:=by unfold Addr.add; split <;> simp_all
  rw [hadd]
  have hi':j / k < ys.length:=Nat.div_lt_of_lt_mul (by rw [Nat.mul_comm]; exact hj)
  have hmod:j % k < k:=Nat.mod_lt _ hk0
  have hy:=List.getElem?_eq_getElem hi'
  have he : (enc ys[j / k])[j % k]? = some ((enc ys[j / k])[j % k]'(by rw [hk]; exact hmod)) := List.getElem?_eq_getElem _
  have h2:=flatMap_at hk ys (j / k) (j % k) _ _ hy he
  have h3:=hc _ _ hy _ _ he
  have h4:j / k * k+j % k = j:=by rw [Nat.mul_comm]; exact Nat.div_add_mod j k
  rw [h4,hu] at h2
  rw [Nat.add_assoc,h4] at h3
  rw [h3,← h2]
 have hbb:(xs.length+ys.length) * bytes≤140737488355328:=by
  have:(xs.length+ys.length) * bytes≤4294967296 * 1024:=Nat.mul_le_mul hlen hby
  omega
 have h1':∀ u ∈ ys.flatMap enc,u.oneCell' = true:=by
  intro u hu
  obtain ⟨y,_,hy⟩:=List.mem_flatMap.1 hu
  exact h1 y u hy
 rcases A with _ | ad
 ·
  have hy0:ys = []:=by
   rcases ys with _ | ⟨y,ys⟩
   ·
    rfl
   ·
    obtain ⟨b,off,hA,_⟩:=hys (by simp)
    cases hA
  subst hy0
  have hrun:=run_append_of_nil (P:=P) W base t o.type e i k ht hi v xs.length (xs.flatMap enc) hown c
  refine wpList_plain hgd fun K hK=>?_
  unfold Oper.wp execOp
  simp only [List.length_nil] at hx
  simp only [ho,resolve,invoke,builtin,Sem.run_bind,Sem.run_pure,Result.andThen_ok,List.map_toArray,List.map_cons,List.map_nil,hs,hx,hrun]
  exact hK _ _ (h v W (by simpa using hown) (only_refl _ _))
 ·
  refine wpList_append_own _ hgd s x t ho base e i z k bytes ht hi hz hsz hb hzs hk0 v xs.length (xs.flatMap enc) hs hown ad ys.length c (ys.flatMap enc) hx hl (hcells ad rfl) h1'
   (by unfold maxLen; omega) hbb hbase ?_
  intro v' w' h2 h3 _
  refine h v' w' ?_ h3
  unfold Own
  rw [List.length_append,List.flatMap_append]
  exact h2
structure Bw (w:World) where
 w':World
 h:Below w.heap.size w w'
instance (w:World) : Inhabited (Bw w):=⟨⟨w,Below.refl _ _⟩⟩
theorem Bw.cell {w:World} {a:Addr} {v:Value} (hb:a.block < w.heap.size) (h:w.cell? a = some v) (p:Bw w) : p.w'.cell? a = some v:=(p.h.cell hb).trans h
theorem Bw.call {P:Program} {f:FuncId} {args:Array Value} {w:World} {v:Value} (p:Bw w) (h:Calls P f args p.w' fun e w'=>e = .returned v∧Below p.w'.heap.size p.w' w') :
  Calls P f args p.w' fun e w''=>e = .returned v∧∃ q:Bw w,w'' = q.w' :=
 h.mono fun _ w'' ⟨he,hb⟩=>⟨he,⟨w'',p.h.trans (hb.mono p.h.size)⟩,rfl⟩
theorem wp_region_below {P:Program} {id:Nat} {Q:Exit→Act→World→Prop} {a:Act} {w:World} {l:List Oper} (hm:P.follows .mixedOrders = true) (hB:Region.lexB .any l.toArray = true)
  (h:wpQuiet P l.toArray (fun w'=>∃ p:Bw w,w' = p.w') (fun a'=>∀ w',(∃ p:Bw w,w' = p.w')→Q .normal a' w') l a) : (Code.region id l.toArray true).wp P Q a w :=
 wp_region_quiet (C:=fun w'=>∃ p:Bw w,w' = p.w') hm hB ⟨⟨_,(Below.refl _ w).drew⟩,rfl⟩ (by simpa using h)
theorem SliceOf.adv {α:Type} {enc:α→List Value} {k:Nat} {w w' : World} {A:Option Addr} {xs:List α} (h:SliceOf enc k w w.heap.size A xs) (hb:Below w.heap.size w w') : SliceOf enc k w' w'.heap.size A xs:=(h.below hb).more hb.size
theorem SliceOf.advG {α:Type} {enc:α→List Value} {k:Nat} {w w' : World} {A:Option Addr} {xs:List α} {b:Nat} (h:SliceOf enc k w w.heap.size A xs) (hg:w.grownBy w' (some b)) (hA : ∀ a,A = some a→a.block ≠ b) : SliceOf enc k w' w'.heap.size A xs:=fun hne=>by
 obtain ⟨c,off,e,hb,hc⟩:=h hne
 have hcb:=hA _ e
 exact ⟨c,off,e,Nat.lt_of_lt_of_le hb hg.size,fun i x hi j v hj=>(World.cell?_of_block (hg.block c hb (fun e=>hcb (by injection e)))).trans (hc i x hi j v hj)⟩
theorem Own.lit {α:Type} {enc:α→List Value} {k:Nat} (hk : ∀ x,(enc x).length = k) (w:World) (xs:List α) (cs:Array Value) (e:TypeId) (hcs:cs = (xs.flatMap enc).toArray) (hl:xs.length≤1000000) {base:Nat} (hb:base≤w.heap.size) :
  Own enc k e (w.alloc (.cells cs e)) base (.slice (some ⟨w.heap.size,0,none⟩) xs.length xs.length) xs:=by
 have hlen:(xs.flatMap enc).length = xs.length * k:=by
  clear hcs hl
  induction xs with
  | nil=>simp
  | cons y ys ih=>rw [List.flatMap_cons,List.length_append,ih,hk,List.length_cons,Nat.succ_mul]; omega
 refine ⟨hlen,.inr ⟨w.heap.size,xs.length,cs,rfl,hb,heap_alloc_new w _,Nat.le_refl _,by unfold maxLen; omega,by rw [hcs]; simpa using hlen,?_⟩⟩
 rw [hcs,← hlen]
 exact List.take_length
theorem below_new (w:World) (o:Obj) : Below w.heap.size w (w.alloc o):=(Below.refl _ _).alloc (Nat.le_refl _) o
theorem SliceOf.advA {α:Type} {enc:α→List Value} {k:Nat} {w:World} {A:Option Addr} {xs:List α} (h:SliceOf enc k w w.heap.size A xs) (o:Obj) : SliceOf enc k (w.alloc o) (w.alloc o).heap.size A xs:=h.adv (below_new w o)
theorem Blk.adv {w w' : World} {g:Nat} {t:TypeId} {cs:Array Value} (h:Blk w g t cs) (hb:Below w.heap.size w w') : Blk w' g t cs:=h.below hb h.lt
theorem bel_adv {a w w' : World} (h:Below a.heap.size a w) (hb:Below w.heap.size w w') : Below a.heap.size a w':=h.trans (hb.mono h.size)
theorem bel_alloc {a w : World} (h:Below a.heap.size a w) (o:Obj) : Below a.heap.size a (w.alloc o):=h.alloc h.size o
theorem bel_set {a w : World} (h:Below a.heap.size a w) {g:Nat} (hg:a.heap.size≤g) (i:Nat) (u:Value) : Below a.heap.size a (w.setCell ⟨g,i,none⟩ u):=h.setCell (p:=⟨g,i,none⟩) hg u
theorem bel_only {a w w' : World} {row:Option Nat} (h:Below a.heap.size a w) (hg:w.grownBy w' row) (hr : ∀ g,row = some g→a.heap.size≤g) : Below a.heap.size a w':=h.trans (only_below hg h.size hr)
theorem only_adv {a w w' : World} {row:Option Nat} (h:a.grownBy w row) (hb:Below w.heap.size w w') : a.grownBy w' row:=only_trans h (only_of_below hb row)
theorem Own.adv {α:Type} {enc:α→List Value} {k:Nat} {e:TypeId} {w w' : World} {base:Nat} {v:Value} {xs:List α} (h:Own enc k e w base v xs) (hb:Below w.heap.size w w') : Own enc k e w' base v xs:=h.kept (only_of_below hb none) (fun _ e=>by cases e)
end Go.Proofs.YtlhkojcmcmkmaaaGreat
namespace Go.Proofs.YtlhkojcmcmkmaaaGreat
open Go.RowKit
section
variable {α:Type} {enc:α→List Value} {k:Nat} {w w':World} {A:Option Addr} {xs:List α} {o:Obj} {n c off:Nat}
theorem fresh_below (hg : (w.alloc o).grownBy w' (Value.slice (some ⟨w.heap.size,off,none⟩) n c).ownBlock) : Below w.heap.size w w':=by
 have h1:(w.alloc o).grownBy w' (some w.heap.size):=hg
 exact (below_new w o).trans (only_below h1 (by simp) (fun g e=>by injection e; omega))
end
theorem Own.below_of {α:Type} {enc:α→List Value} {k:Nat} {e:TypeId} {w w' : World} {base:Nat} {v:Value} {xs:List α} (h:Own enc k e w base v xs) (hg:w.grownBy w' v.ownBlock) (hb:base≤w.heap.size) : Below base w w' :=
 only_below hg hb (fun _ e=>(h.block_lt e).1)
theorem Own.form2 {α:Type} {enc:α→List Value} {k:Nat} {e:TypeId} {w:World} {base:Nat} {v:Value} {xs:List α} (h:Own enc k e w base v xs) (hk : ∀ x,(enc x).length = k) :
  ∃ A c,v = .slice A xs.length c∧SliceOf enc k w w.heap.size A xs∧(∀ a,A = some a→base≤a.block)∧xs.length≤c∧c≤maxLen:=by
 obtain ⟨A,c,hv,hs,hb,hl⟩:=h.form hk
 refine ⟨A,c,hv,hs,hb,?_⟩
 rcases h.2 with ⟨rfl,h0⟩ | ⟨g,cap,cur,rfl,_,_,hn,hm,_⟩
 ·
  injection hv with _ h1 h2
  subst h2
  exact ⟨by omega,by unfold maxLen; omega⟩
 ·
  injection hv with _ _ h2
  subst h2
  exact ⟨hn,hm⟩
theorem below_size {B:Nat} {a b c : World} (h:Below B a b) (hb:Below b.heap.size b c) (hB:B≤b.heap.size) : Below B a c:=h.trans (hb.mono hB)
theorem sets6 {cs:Array Value} (hs:cs.size = 6) (a0 a1 a2 a3 a4 a5 : Value) : ((((((cs.setIfInBounds 0 a0).setIfInBounds 1 a1).setIfInBounds 2 a2).setIfInBounds 3 a3).setIfInBounds 4 a4).setIfInBounds 5 a5) = #[a0,a1,a2,a3,a4,a5]:=by
 obtain ⟨l⟩:=cs
 match l,hs with
 | [_,_,_,_,_,_],_=>rfl
theorem Blk.put6 {w:World} {g:Nat} {t:TypeId} {cs:Array Value} (h:Blk w g t cs) (hs:cs.size = 6) (a0 a1 a2 a3 a4 a5 : Value) :
  Blk ((((((w.setCell ⟨g,0,none⟩ a0).setCell ⟨g,1,none⟩ a1).setCell ⟨g,2,none⟩ a2).setCell ⟨g,3,none⟩ a3).setCell ⟨g,4,none⟩ a4).setCell ⟨g,5,none⟩ a5) g t #[a0,a1,a2,a3,a4,a5]:=by
 rw [← sets6 hs a0 a1 a2 a3 a4 a5]
 exact (((((h.set_ 0 a0).set_ 1 a1).set_ 2 a2).set_ 3 a3).set_ 4 a4).set_ 5 a5
theorem below_put {w W : World} {g:Nat} (h:Below w.heap.size w W) (hg:w.heap.size≤g) (i:Nat) (a:Value) : Below w.heap.size w (W.setCell ⟨g,i,none⟩ a):=h.setCell (p:=⟨g,i,none⟩) hg a
end Go.Proofs.YtlhkojcmcmkmaaaGreat
namespace Go.Proofs.YtlhkojcmcmkmaaaGreat
open Go.RowKit
def RowI (w:World) (g:Nat) (xs:List Int) : Prop:=w.rowIs g 3 xs.length (fun i=>.int .i64 (xs.getD i 0))
section
variable {w w':World} {g:Nat} {xs:List Int}
theorem RowI.lt (h:RowI w g xs) : g < w.heap.size:=World.rowIs.lt h
theorem RowI.cell (h:RowI w g xs) {i:Nat} (hi:i < xs.length) : w.cell? ⟨g,i,none⟩ = some (.int .i64 (xs.getD i 0)):=World.rowIs.cell h hi
theorem RowI.frozen (h:RowI w g xs) (i:Nat) : w.frozen? ⟨g,i,none⟩ = false:=World.rowIs.frozen h i
theorem getD_set (xs:List Int) (i j : Nat) (v:Int) (hi:i < xs.length) : (xs.set i v).getD j 0 = if j = i then v else xs.getD j 0:=by
 rw [List.getD_eq_getElem?_getD,List.getElem?_set,List.getD_eq_getElem?_getD]
 by_cases e:i = j
 ·
  subst e; simp [hi]
 ·
  rw [if_neg e,if_neg (fun h=>e h.symm)]
theorem RowI.set (h:RowI w g xs) {i:Nat} (hi:i < xs.length) (v:Int) : RowI (w.setCell ⟨g,i,none⟩ (.int .i64 v)) g (xs.set i v):=by
 unfold RowI
 rw [List.length_set]
 refine (World.rowIs.set h i (.int .i64 v)).congr fun j hj=>?_
 rw [getD_set _ _ _ _ hi]
 split <;> rfl
theorem RowI.far (h:RowI w g xs) {p:Addr} (hp:g ≠ p.block) (v:Value) : RowI (w.setCell p v) g xs:=World.rowIs.setOther h hp v
theorem RowI.alloc (h:RowI w g xs) (o:Obj) : RowI (w.alloc o) g xs:=World.rowIs.alloc h o
theorem RowI.adv (h:RowI w g xs) (hb:Below w.heap.size w w') : RowI w' g xs:=World.rowIs.of_block h (hb.block g h.lt)
theorem RowI.grown (h:RowI w g xs) {row:Option Nat} (hg:w.grownBy w' row) (hr:some g ≠ row) : RowI w' g xs:=World.rowIs.of_block h (hg.block g h.lt hr)
theorem RowI.slice (h:RowI w g xs) : SliceOf encI 1 w w.heap.size (some ⟨g,0,none⟩) xs:=fun _=>by
 refine ⟨g,0,rfl,h.lt,fun i x hi j v hj=>?_⟩
 have hl:=(List.getElem?_eq_some_iff.1 hi).1
 obtain rfl:j = 0:=by
  have:=(List.getElem?_eq_some_iff.1 hj).1
  simp [encI] at this; omega
 have:=h.cell hl
 rw [Nat.zero_add,Nat.mul_one,Nat.add_zero,this,List.getD_eq_getElem?_getD,hi]
 simpa [encI] using hj
end
theorem RowI.made (w:World) (n:Nat) : RowI (w.alloc (.cells (madeCells #[.int .i64 0] n) 3)) w.heap.size (List.replicate n 0):=by
 unfold RowI
 rw [List.length_replicate]
 refine (World.rowIs_made w (.int .i64 0) n 3).congr fun i hi=>?_
 rw [List.getD_eq_getElem?_getD,List.getElem?_replicate]
 split <;> rfl
theorem infoInt : (Tryz.prog.info? 3).map (fun i=>(i.zero,i.size,i.bytes)) = some (some (.int .i64 0),1,8):=by kernel_rfl
theorem make_ints (n:Nat) (hn:n≤1000000) (w:World) : (Instr.makeSlice 34 (.int .i64 (n:Int)) (.int .i64 (n:Int))).run Tryz.prog w = .ok (.slice (some ⟨w.heap.size,0,none⟩) n n) (w.alloc (.cells (madeCells #[.int .i64 0] n) 3)) :=
 run_make_row' 34 3 (.int .i64 0) 8 Tryz.underlying34 infoInt rfl .i64 .i64 n (by omega) (by omega) w
theorem make_intsE (n:Nat) (x:Int) (hx:x = n) (hn:n≤1000000) (w:World) : (Instr.makeSlice 34 (.int .i64 x) (.int .i64 x)).run Tryz.prog w = .ok (.slice (some ⟨w.heap.size,0,none⟩) n n) (w.alloc (.cells (madeCells #[.int .i64 0] n) 3)):=by
 subst hx
 exact make_ints n hn w
theorem slice_to (b off len cap : Nat) (x:Int) (m:Nat) (hx:x = m) (hm:m≤cap) (hc:cap ≠ 0) (w:World) : (Instr.sliceAt 34 (.slice (some ⟨b,off,none⟩) len cap) none (some (.int .i64 x)) none).run Tryz.prog w = .ok (.slice (some ⟨b,off,none⟩) m cap) w:=by
 have hu:Tryz.prog.underlying 34 = some (.slice (Tryz.prog.elem 34)):=by kernel_rfl
 have hz:∀ w:World,(sizeOf (Tryz.prog.elem 34)).run Tryz.prog w = .ok 1 w:=fun _=>by kernel_rfl
 have hadd:(⟨b,off,none⟩ : Addr).add 0 = ⟨b,off,none⟩:=by unfold Addr.add; split <;> simp_all
 subst hx
 rw [run_sliceAt_slice w _ _ _ _ _ hu,run_slice_h w _ _ _ _ hu .i64 (m:Int) (by omega) (by omega),hz]
 simp [Result.andThen,sliced,hc,hadd]
end Go.Proofs.YtlhkojcmcmkmaaaGreat
