/- Joined texts: Data TcN TpN. Conditions: as stated. -/
import Derived.Below
import Derived.Laws.OwnMore
import Derived.Deep.AppendLies
import Derived.Deep.Draws
import Derived.WalkKit
import Derived.Deep.QuietTactic
import Derived.BigQuiet
namespace Go.Proofs.YtopekilofdadnaaGreatDoor
theorem nqa : type_of% @List.getElem_toArray := @List.getElem_toArray
theorem nqb : type_of% @List.getElem_cons_succ := @List.getElem_cons_succ
theorem nqc : type_of% @List.getElem_cons_zero := @List.getElem_cons_zero
theorem nqd : type_of% @List.setIfInBounds_toArray := @List.setIfInBounds_toArray
theorem nqe : type_of% @List.set_cons_succ := @List.set_cons_succ
theorem nqf : type_of% @List.set_cons_zero := @List.set_cons_zero
theorem nqg : type_of% @List.getElem?_toArray := @List.getElem?_toArray
theorem nqh : type_of% @List.getElem?_cons_zero := @List.getElem?_cons_zero
theorem nqi : type_of% @List.getElem?_cons_succ := @List.getElem?_cons_succ
theorem nqj : type_of% @List.mem_cons := @List.mem_cons
theorem nqk : type_of% @List.not_mem_nil := @List.not_mem_nil
end Go.Proofs.YtopekilofdadnaaGreatDoor
namespace Go.Proofs.YtopekilofdadnaaGreatDoor
open Go.RowKit
def SliceOf {α:Type} (enc:α→List Value) (k:Nat) (w:World) (B:Nat) (A:Option Addr) (xs:List α) : Prop :=
 xs ≠ []→∃ b off,A = some ⟨b,off,none⟩∧b < B∧∀ i x,xs[i]? = some x→∀ j v,(enc x)[j]? = some v→w.cell? ⟨b,off+i * k+j,none⟩ = some v
section
variable {α:Type} {enc:α→List Value} {k:Nat} {w w':World} {B B':Nat} {A:Option Addr} {xs:List α}
theorem SliceOf.nil_ : SliceOf enc k w B A []:=fun h=>absurd rfl h
theorem SliceOf.keep (h:SliceOf enc k w B A xs) (hk : ∀ p : Addr,p.block < B→w'.cell? p = w.cell? p) : SliceOf enc k w' B A xs:=fun hx=>by
 obtain ⟨b,off,e,hb,hc⟩:=h hx
 exact ⟨b,off,e,hb,fun i x hi j v hj=>(hk _ hb).trans (hc i x hi j v hj)⟩
theorem SliceOf.more (h:SliceOf enc k w B A xs) (hB:B≤B') : SliceOf enc k w B' A xs:=fun hx=>by
 obtain ⟨b,off,e,hb,hc⟩:=h hx
 exact ⟨b,off,e,by omega,hc⟩
theorem SliceOf.below (h:SliceOf enc k w B A xs) (hb:Below B w w') : SliceOf enc k w' B A xs:=h.keep fun _ hp=>hb.cell hp
theorem SliceOf.at_ (h:SliceOf enc k w B A xs) {i:Nat} (hi:i < xs.length) :
  ∃ b off,A = some ⟨b,off,none⟩∧b < B∧∀ j v,(enc xs[i])[j]? = some v→w.cell? ⟨b,off+i * k+j,none⟩ = some v:=by
 have hx:xs ≠ []:=by intro e; subst e; simp at hi
 obtain ⟨b,off,e,hb,hc⟩:=h hx
 exact ⟨b,off,e,hb,fun j v hj=>hc i _ (List.getElem?_eq_getElem hi) j v hj⟩
end
theorem below_drewN {B:Nat} {a w : World} (h:Below B a w) (n:Nat) : Below B a (w.drewN n):=⟨h.os,h.tape,h.output,h.size,h.block⟩
theorem only_drewN {a w : World} {row:Option Nat} (h:a.grownBy w row) (n:Nat) : a.grownBy (w.drewN n) row:=⟨h.os,h.tape,h.output,h.size,h.block⟩
theorem only_alloc {a w : World} {row:Option Nat} (h:a.grownBy w row) (o:Obj) : a.grownBy (w.alloc o) row :=
 ⟨h.os,h.tape,h.output,Nat.le_trans h.size (by simp),fun i hi hne=>(Below.heap_alloc w o i (Nat.lt_of_lt_of_le hi h.size)).trans (h.block i hi hne)⟩
theorem only_setCell {a w : World} {g:Nat} (h:a.grownBy w (some g)) {p:Addr} (hp:p.block = g ∨ a.heap.size≤p.block) (u:Value) : a.grownBy (w.setCell p u) (some g) :=
 ⟨h.os,h.tape,h.output,by simpa [World.setCell] using h.size,fun i hi hne=>(Below.heap_setCell w p u i (by
  rintro rfl
  rcases hp with hp | hp
  ·
   exact hne (by rw [hp])
  ·
   omega)).trans (h.block i hi hne)⟩
theorem only_of_below {a w : World} (h:Below a.heap.size a w) (row:Option Nat) : a.grownBy w row:=⟨h.os,h.tape,h.output,h.size,fun i hi _=>h.block i hi⟩
theorem only_refl (a:World) (row:Option Nat) : a.grownBy a row:=⟨rfl,rfl,rfl,Nat.le_refl _,fun _ _ _=>rfl⟩
theorem only_trans {a b c : World} {row:Option Nat} (h:a.grownBy b row) (k:b.grownBy c row) : a.grownBy c row :=
 ⟨k.os.trans h.os,k.tape.trans h.tape,k.output.trans h.output,Nat.le_trans h.size k.size,fun i hi hne=>(k.block i (Nat.lt_of_lt_of_le hi h.size) hne).trans (h.block i hi hne)⟩
theorem only_then {a b c : World} {row row' : Option Nat} (h:a.grownBy b row) (k:b.grownBy c row') (hr : ∀ g,row' = some g→a.heap.size≤g ∨ row = some g) : a.grownBy c row :=
 ⟨k.os.trans h.os,k.tape.trans h.tape,k.output.trans h.output,Nat.le_trans h.size k.size,fun i hi hne=>(k.block i (Nat.lt_of_lt_of_le hi h.size) (fun e=>by
  rcases hr i e.symm with h1 | h1
  ·
   omega
  ·
   exact hne h1.symm)).trans (h.block i hi hne)⟩
theorem only_below {a w : World} {row:Option Nat} (h:a.grownBy w row) {B:Nat} (hB:B≤a.heap.size) (hr : ∀ g,row = some g→B≤g) : Below B a w :=
 ⟨h.os,h.tape,h.output,h.size,fun i hi=>h.block i (by omega) (fun e=>by have:=hr i e.symm; omega)⟩
def Blk (w:World) (g:Nat) (t:TypeId) (cs:Array Value) : Prop:=w.heap[g]? = some (.cells cs t (0,0))
section
variable {w w':World} {g:Nat} {t:TypeId} {cs:Array Value}
theorem Blk.lt (h:Blk w g t cs) : g < w.heap.size:=by
 rcases Nat.lt_or_ge g w.heap.size with hlt | hge
 ·
  exact hlt
 ·
  unfold Blk at h; rw [Array.getElem?_eq_none hge] at h; cases h
theorem Blk.cell (h:Blk w g t cs) (i:Nat) : w.cell? ⟨g,i,none⟩ = cs[i]?:=cell_of_row w g i cs t (0,0) h
theorem Blk.frozen (h:Blk w g t cs) (i:Nat) : w.frozen? ⟨g,i,none⟩ = false:=by
 unfold Blk at h
 simp [World.frozen?,h]
theorem Blk.new (w:World) (t:TypeId) (cs:Array Value) : Blk (w.alloc (.cells cs t)) w.heap.size t cs:=heap_alloc_new w _
theorem Blk.drewN (h:Blk w g t cs) (n:Nat) : Blk (w.drewN n) g t cs:=h
theorem Blk.alloc (h:Blk w g t cs) (o:Obj) : Blk (w.alloc o) g t cs:=(Below.heap_alloc w o g h.lt).trans h
theorem Blk.set_ (h:Blk w g t cs) (i:Nat) (u:Value) : Blk (w.setCell ⟨g,i,none⟩ u) g t (cs.setIfInBounds i u):=by
 unfold Blk at h ⊢
 simp [World.setCell,Array.getElem?_modify,h]
theorem Blk.far (h:Blk w g t cs) {p:Addr} (hp:g ≠ p.block) (u:Value) : Blk (w.setCell p u) g t cs:=(Below.heap_setCell w p u g hp).trans h
theorem Blk.below {B:Nat} (h:Blk w g t cs) (hb:Below B w w') (hg:g < B) : Blk w' g t cs:=(hb.block g hg).trans h
theorem Blk.grown {row:Option Nat} (h:Blk w g t cs) (hb:w.grownBy w' row) (hg:some g ≠ row) : Blk w' g t cs:=(hb.block g h.lt hg).trans h
end
def encI (x:Int) : List Value:=[.int .i64 x]
def I64 (x:Int) : Prop:=-9223372036854775808≤x∧x≤9223372036854775807
theorem SliceOf.grown {α:Type} {enc:α→List Value} {k:Nat} {w w' : World} {B:Nat} {A:Option Addr} {xs:List α} {row:Option Nat} (h:SliceOf enc k w B A xs) (hg:w.grownBy w' row) (hB:B≤w.heap.size) (hr : ∀ g,row = some g→B≤g) : SliceOf enc k w' B A xs :=
 h.below (only_below hg hB hr)
def Own {α:Type} (enc:α→List Value) (k:Nat) (e:TypeId) (w:World) (base:Nat) (v:Value) (xs:List α) : Prop:=w.ownsRow base e k v xs.length (xs.flatMap enc)
section
variable {α:Type} {enc:α→List Value} {k:Nat} {e:TypeId} {w w':World} {base:Nat} {v:Value} {xs:List α}
theorem flatMap_at (hk : ∀ x,(enc x).length = k) : ∀ (xs:List α) (i j : Nat) (x:α) (u:Value),xs[i]? = some x→(enc x)[j]? = some u→(xs.flatMap enc)[i * k+j]? = some u:=by
 intro xs
 induction xs with
 | nil=>intro i j x u h; simp at h
 | cons a xs ih =>
  intro i j x u h1 h2
  rw [List.flatMap_cons]
  cases i with
  | zero =>
   simp at h1; subst h1
   have hj:j < (enc a).length:=(List.getElem?_eq_some_iff.1 h2).1
   rw [Nat.zero_mul,Nat.zero_add,List.getElem?_append_left hj,h2]
  | succ i =>
   simp at h1
   rw [List.getElem?_append_right (by rw [hk,Nat.succ_mul]; omega)]
   rw [hk,show (i+1) * k+j - k = i * k+j by rw [Nat.succ_mul]; omega]
   exact ih i j x u h1 h2
theorem Own.nil_ (w:World) (base:Nat) : Own enc k e w base (.slice none 0 0) ([] : List α):=World.ownsRow_nil w base e k
theorem Own.kept {row:Option Nat} (h:Own enc k e w base v xs) (hg:w.grownBy w' row) (hr : ∀ g,row = some g→g < base) : Own enc k e w' base v xs:=by
 refine World.ownsRow.kept h hg ?_
 cases hv:v.ownBlock with
 | none=>exact .inl rfl
 | some g =>
  right
  intro he
  have h1:=h.lt g hv
  have h2:=hr g he.symm
  omega
theorem Own.weaken {base' : Nat} (h:Own enc k e w base v xs) (hb:base'≤base) : Own enc k e w base' v xs:=by
 refine ⟨h.1,?_⟩
 rcases h.2 with h0 | ⟨g,cap,cur,hv,hbg,r⟩
 ·
  exact .inl h0
 ·
  exact .inr ⟨g,cap,cur,hv,by omega,r⟩
theorem Own.alloc (h:Own enc k e w base v xs) (o:Obj) : Own enc k e (w.alloc o) base v xs:=World.ownsRow.alloc h o
theorem Own.drewN (h:Own enc k e w base v xs) (n:Nat) : Own enc k e (w.drewN n) base v xs:=h
theorem Own.setCell (h:Own enc k e w base v xs) {p:Addr} (hp : ∀ g,v.ownBlock = some g→g ≠ p.block) (u:Value) : Own enc k e (w.setCell p u) base v xs:=by
 have hg:w.grownBy (w.setCell p u) (some p.block):=only_setCell (only_refl _ _) (.inl rfl) u
 refine World.ownsRow.kept h hg ?_
 cases hv:v.ownBlock with
 | none=>exact .inl rfl
 | some g =>
  right
  intro he
  injection he with he
  exact hp g hv he
theorem Own.block_lt (h:Own enc k e w base v xs) {g:Nat} (hg:v.ownBlock = some g) : base≤g∧g < w.heap.size:=h.lt g hg
theorem Own.form (h:Own enc k e w base v xs) (hk : ∀ x,(enc x).length = k) : ∃ A c,v = .slice A xs.length c∧SliceOf enc k w w.heap.size A xs∧(∀ a,A = some a→base≤a.block)∧xs.length≤maxLen:=by
 rcases h.2 with ⟨rfl,h0⟩ | ⟨g,cap,cur,rfl,hb,hg,hn,hm,hs,ht⟩
 ·
  obtain rfl:xs = []:=List.eq_nil_of_length_eq_zero h0
  exact ⟨none,0,rfl,SliceOf.nil_,fun a ha=>(by cases ha),by simp⟩
 ·
  refine ⟨some ⟨g,0,none⟩,cap,rfl,fun hx=>?_,fun a ha=>?_,by omega⟩
  ·
   refine ⟨g,0,rfl,(Array.getElem?_eq_some_iff.1 hg).1,fun i x hi j u hu=>?_⟩
   rw [Nat.zero_add,cell_of_row w g _ cur e (0,0) hg]
   have h1:=flatMap_at hk xs i j x u hi hu
   rw [← ht,List.getElem?_take] at h1
   split at h1
   ·
    simpa using h1
   ·
    cases h1
  ·
   injection ha with ha
   subst ha
   exact hb
end
theorem wpList_append_one {P:Program} {α:Type} {enc:α→List Value} {k:Nat} {e:TypeId} {W:World} {base:Nat} {v:Value} {xs:List α}
  {ops:Array Oper} {rest:List Oper} {o:Oper} {a:Act} {Q:Exit→Act→World→Prop} {cs:Array Value} {H:Nat} (s x:Operand) (t:TypeId) (y:α) (c bytes:Nat) (z:Value)
  (hinfo:(P.info? e).map (fun i=>(i.zero,i.size,i.bytes)) = some (some z,k,bytes)) (ht:P.underlying t = some (.slice e))
  (hown:Own enc k e W base v xs) (hk:∀ x,(enc x).length = k) (hk0:0 < k) (hzs:z.cells.size = k) (h1:∀ u ∈ enc y,u.oneCell' = true)
  (hlen:xs.length < 4294967296) (hby:bytes≤1024) (hbase:base≤W.heap.size)
  (hgd:o.guard = none) (ho:o.op = .call { callee:=.builtin .append,args:=#[s,x],argTypes:=#[t,t] })
  (hs:a.eval s = v) (hx:a.eval x = .slice (some ⟨H,0,none⟩) 1 c) (hH:W.heap.size = H) (hcs:cs = (enc y).toArray)
  (h:∀ v' w',Own enc k e w' base v' (xs++[y])→W.grownBy w' v.ownBlock→wpList P ops Q rest (a.put o.dst v') w') :
  wpList P ops Q (o :: rest) a (W.alloc (.cells cs e)):=by
 subst hcs
 subst hH
 obtain ⟨i,hi,hz,hsz,hb⟩:=info_parts hinfo
 refine wpList_append_own _ hgd s x t ho base e i z k bytes ht hi hz hsz hb hzs hk0 v xs.length (xs.flatMap enc) hs (hown.alloc _) ⟨W.heap.size,0,none⟩ 1 c (enc y) hx (by rw [hk]; omega) ?_ h1
  (by unfold maxLen; omega) ?_ (by simp; omega) ?_
 ·
  intro j u hj
  have hadd:(⟨W.heap.size,0,none⟩ : Addr).add j = ⟨W.heap.size,j,none⟩:=by unfold Addr.add; split <;> simp_all
  rw [hadd,World.cell?_alloc_at _ _ _ _ rfl]
  simpa using hj
 ·
  have:(xs.length+1) * bytes≤4294967296 * 1024:=Nat.mul_le_mul (by omega) hby
  omega
 ·
  intro v' w' h2 h3 _
  refine h v' w' ?_ ?_
  ·
   unfold Own
   rw [List.length_append,List.flatMap_append]
   simpa using h2
  ·
   exact ⟨h3.os,h3.tape,h3.output,Nat.le_trans (by simp) h3.size,fun i hi hne=>(h3.block i (by simp; omega) hne).trans (Below.heap_alloc W _ i hi)⟩
section
variable {P:Program} (w:World)
theorem run_append_of_nil (base:Nat) (t ty e : TypeId) (i:TypeInfo) (size:Nat) (ht:P.underlying t = some (.slice e)) (hi:P.info? e = some i)
  (v:Value) (n:Nat) (xs:List Value) (hown:w.ownsRow base e size v n xs) (c:Nat) : (Builtin.append_ #[t,t] ty #[v,.slice none 0 c]).run P w = .ok v w:=by
 rcases hown.2 with ⟨rfl,rfl⟩ | ⟨g,cap,cur,rfl,_,_,hnc,_⟩
 ·
  simp [Builtin.append_,run_underlying ht,sizeOf,typeInfo,hi,Builtin.lenOf,Builtin.firstCells]
 ·
  simp [Builtin.append_,run_underlying ht,sizeOf,typeInfo,hi,Builtin.lenOf,Builtin.firstCells,hnc,storeCells]
end
theorem wpList_append_list {P:Program} {α:Type} {enc:α→List Value} {k:Nat} {e:TypeId} {W:World} {base B : Nat} {v:Value} {xs ys : List α} {A:Option Addr}
  {ops:Array Oper} {rest:List Oper} {o:Oper} {a:Act} {Q:Exit→Act→World→Prop} {m:Nat} (s x:Operand) (t:TypeId) (c bytes:Nat) (z:Value)
  (hinfo:(P.info? e).map (fun i=>(i.zero,i.size,i.bytes)) = some (some z,k,bytes)) (ht:P.underlying t = some (.slice e))
  (hown:Own enc k e W base v xs) (hys:SliceOf enc k W B A ys) (hk:∀ x,(enc x).length = k) (hk0:0 < k) (hzs:z.cells.size = k) (h1:∀ y,∀ u ∈ enc y,u.oneCell' = true)
  (hlen:xs.length+ys.length≤4294967296) (hby:bytes≤1024) (hbase:base≤W.heap.size)
  (hgd:o.guard = none) (ho:o.op = .call { callee:=.builtin .append,args:=#[s,x],argTypes:=#[t,t] })
  (hs:a.eval s = v) (hx:a.eval x = .slice A m c) (hm:m = ys.length)
  (h:∀ v' w',Own enc k e w' base v' (xs++ys)→W.grownBy w' v.ownBlock→wpList P ops Q rest (a.put o.dst v') w') :
  wpList P ops Q (o :: rest) a W:=by
 subst hm
 obtain ⟨i,hi,hz,hsz,hb⟩:=info_parts hinfo
 have hl:(ys.flatMap enc).length = ys.length * k:=by
  clear hys hx h hlen
  induction ys with
  | nil=>simp
  | cons y ys ih=>rw [List.flatMap_cons,List.length_append,ih,hk,List.length_cons,Nat.succ_mul]; omega
 have hcells:∀ ad,A = some ad→∀ j u,(ys.flatMap enc)[j]? = some u→W.cell? (ad.add j) = some u:=by
  intro ad hA j u hu
  have hj:j < ys.length * k:=by rw [← hl]; exact (List.getElem?_eq_some_iff.1 hu).1
  have hne:ys ≠ []:=by intro e; subst e; simp at hj
  obtain ⟨b,off,hA',hb,hc⟩:=hys hne
  rw [hA'] at hA
  injection hA with hA
  subst hA
  have hadd:(⟨b,off,none⟩ : Addr).add j = ⟨b,off+j,none⟩:=by unfold Addr.add; split <;> simp_all
  rw [hadd]
  have hi':j / k < ys.length:=Nat.div_lt_of_lt_mul (by rw [Nat.mul_comm]; exact hj)
  have hmod:j % k < k:=Nat.mod_lt _ hk0
  have hy:=List.getElem?_eq_getElem hi'
  have he : (enc ys[j / k])[j % k]? = some ((enc ys[j / k])[j % k]'(by rw [hk]; exact hmod)) := List.getElem?_eq_getElem _
  have h2:=flatMap_at hk ys (j / k) (j % k) _ _ hy he
  have h3:=hc _ _ hy _ _ he
  have h4:j / k * k+j % k = j:=by rw [Nat.mul_comm]; exact Nat.div_add_mod j k
  rw [h4,hu] at h2
  rw [Nat.add_assoc,h4] at h3
  rw [h3,← h2]
 have hbb:(xs.length+ys.length) * bytes≤140737488355328:=by
  have:(xs.length+ys.length) * bytes≤4294967296 * 1024:=Nat.mul_le_mul hlen hby
  omega
 have h1':∀ u ∈ ys.flatMap enc,u.oneCell' = true:=by
  intro u hu
  obtain ⟨y,_,hy⟩:=List.mem_flatMap.1 hu
  exact h1 y u hy
 rcases A with _ | ad
 ·
  have hy0:ys = []:=by
   rcases ys with _ | ⟨y,ys⟩
   ·
    rfl
   ·
    obtain ⟨b,off,hA,_⟩:=hys (by simp)
    cases hA
  subst hy0
  have hrun:=run_append_of_nil (P:=P) W base t o.type e i k ht hi v xs.length (xs.flatMap enc) hown c
  refine wpList_plain hgd fun K hK=>?_
  unfold Oper.wp execOp
  simp only [List.length_nil] at hx
  simp only [ho,resolve,invoke,builtin,Sem.run_bind,Sem.run_pure,Result.andThen_ok,List.map_toArray,List.map_cons,List.map_nil,hs,hx,hrun]
  exact hK _ _ (h v W (by simpa using hown) (only_refl _ _))
 ·
  refine wpList_append_own _ hgd s x t ho base e i z k bytes ht hi hz hsz hb hzs hk0 v xs.length (xs.flatMap enc) hs hown ad ys.length c (ys.flatMap enc) hx hl (hcells ad rfl) h1'
   (by unfold maxLen; omega) hbb hbase ?_
  intro v' w' h2 h3 _
  refine h v' w' ?_ h3
  unfold Own
  rw [List.length_append,List.flatMap_append]
  exact h2
structure Bw (w:World) where
 w':World
 h:Below w.heap.size w w'
instance (w:World) : Inhabited (Bw w):=⟨⟨w,Below.refl _ _⟩⟩
theorem Bw.cell {w:World} {a:Addr} {v:Value} (hb:a.block < w.heap.size) (h:w.cell? a = some v) (p:Bw w) : p.w'.cell? a = some v:=(p.h.cell hb).trans h
theorem Bw.call {P:Program} {f:FuncId} {args:Array Value} {w:World} {v:Value} (p:Bw w) (h:Calls P f args p.w' fun e w'=>e = .returned v∧Below p.w'.heap.size p.w' w') :
  Calls P f args p.w' fun e w''=>e = .returned v∧∃ q:Bw w,w'' = q.w' :=
 h.mono fun _ w'' ⟨he,hb⟩=>⟨he,⟨w'',p.h.trans (hb.mono p.h.size)⟩,rfl⟩
theorem wp_region_below {P:Program} {id:Nat} {Q:Exit→Act→World→Prop} {a:Act} {w:World} {l:List Oper} (hm:P.follows .mixedOrders = true) (hB:Region.lexB .any l.toArray = true)
  (h:wpQuiet P l.toArray (fun w'=>∃ p:Bw w,w' = p.w') (fun a'=>∀ w',(∃ p:Bw w,w' = p.w')→Q .normal a' w') l a) : (Code.region id l.toArray true).wp P Q a w :=
 wp_region_quiet (C:=fun w'=>∃ p:Bw w,w' = p.w') hm hB ⟨⟨_,(Below.refl _ w).drew⟩,rfl⟩ (by simpa using h)
theorem SliceOf.adv {α:Type} {enc:α→List Value} {k:Nat} {w w' : World} {A:Option Addr} {xs:List α} (h:SliceOf enc k w w.heap.size A xs) (hb:Below w.heap.size w w') : SliceOf enc k w' w'.heap.size A xs:=(h.below hb).more hb.size
theorem SliceOf.advG {α:Type} {enc:α→List Value} {k:Nat} {w w' : World} {A:Option Addr} {xs:List α} {b:Nat} (h:SliceOf enc k w w.heap.size A xs) (hg:w.grownBy w' (some b)) (hA : ∀ a,A = some a→a.block ≠ b) : SliceOf enc k w' w'.heap.size A xs:=fun hne=>by
 obtain ⟨c,off,e,hb,hc⟩:=h hne
 have hcb:=hA _ e
 exact ⟨c,off,e,Nat.lt_of_lt_of_le hb hg.size,fun i x hi j v hj=>(World.cell?_of_block (hg.block c hb (fun e=>hcb (by injection e)))).trans (hc i x hi j v hj)⟩
theorem Own.lit {α:Type} {enc:α→List Value} {k:Nat} (hk : ∀ x,(enc x).length = k) (w:World) (xs:List α) (cs:Array Value) (e:TypeId) (hcs:cs = (xs.flatMap enc).toArray) (hl:xs.length≤1000000) {base:Nat} (hb:base≤w.heap.size) :
  Own enc k e (w.alloc (.cells cs e)) base (.slice (some ⟨w.heap.size,0,none⟩) xs.length xs.length) xs:=by
 have hlen:(xs.flatMap enc).length = xs.length * k:=by
  clear hcs hl
  induction xs with
  | nil=>simp
  | cons y ys ih=>rw [List.flatMap_cons,List.length_append,ih,hk,List.length_cons,Nat.succ_mul]; omega
 refine ⟨hlen,.inr ⟨w.heap.size,xs.length,cs,rfl,hb,heap_alloc_new w _,Nat.le_refl _,by unfold maxLen; omega,by rw [hcs]; simpa using hlen,?_⟩⟩
 rw [hcs,← hlen]
 exact List.take_length
theorem below_new (w:World) (o:Obj) : Below w.heap.size w (w.alloc o):=(Below.refl _ _).alloc (Nat.le_refl _) o
theorem SliceOf.advA {α:Type} {enc:α→List Value} {k:Nat} {w:World} {A:Option Addr} {xs:List α} (h:SliceOf enc k w w.heap.size A xs) (o:Obj) : SliceOf enc k (w.alloc o) (w.alloc o).heap.size A xs:=h.adv (below_new w o)
theorem Blk.adv {w w' : World} {g:Nat} {t:TypeId} {cs:Array Value} (h:Blk w g t cs) (hb:Below w.heap.size w w') : Blk w' g t cs:=h.below hb h.lt
theorem bel_adv {a w w' : World} (h:Below a.heap.size a w) (hb:Below w.heap.size w w') : Below a.heap.size a w':=h.trans (hb.mono h.size)
theorem bel_alloc {a w : World} (h:Below a.heap.size a w) (o:Obj) : Below a.heap.size a (w.alloc o):=h.alloc h.size o
theorem bel_set {a w : World} (h:Below a.heap.size a w) {g:Nat} (hg:a.heap.size≤g) (i:Nat) (u:Value) : Below a.heap.size a (w.setCell ⟨g,i,none⟩ u):=h.setCell (p:=⟨g,i,none⟩) hg u
theorem bel_only {a w w' : World} {row:Option Nat} (h:Below a.heap.size a w) (hg:w.grownBy w' row) (hr : ∀ g,row = some g→a.heap.size≤g) : Below a.heap.size a w':=h.trans (only_below hg h.size hr)
theorem only_adv {a w w' : World} {row:Option Nat} (h:a.grownBy w row) (hb:Below w.heap.size w w') : a.grownBy w' row:=only_trans h (only_of_below hb row)
theorem Own.adv {α:Type} {enc:α→List Value} {k:Nat} {e:TypeId} {w w' : World} {base:Nat} {v:Value} {xs:List α} (h:Own enc k e w base v xs) (hb:Below w.heap.size w w') : Own enc k e w' base v xs:=h.kept (only_of_below hb none) (fun _ e=>by cases e)
end Go.Proofs.YtopekilofdadnaaGreatDoor
namespace Go.Proofs.YtopekilofdadnaaGreatDoor
open Go.RowKit
structure ChT where
 at_:Int
 off:Int
deriving DecidableEq
structure ZoneT where
 off:Int
 ch:List ChT
structure ZoneOk (z:ZoneT) : Prop where
 len:z.ch.length≤64
 o : -840≤z.off∧z.off≤840
 r:∀ c ∈ z.ch,(0≤c.at_∧c.at_≤120968639)∧-840≤c.off∧c.off≤840
 asc:z.ch.Pairwise (fun a b=>a.at_ < b.at_)
structure SegT where
 f:Int
 t:Int
 o:Int
deriving DecidableEq
def segN (f o : Int) : List ChT→List SegT
 | []=>[⟨f,120968640,o⟩]
 | c :: r=>(if f < c.at_ then [⟨f,c.at_,o⟩] else [])++segN c.at_ c.off r
def segs (z:ZoneT) : List SegT:=segN 0 z.off z.ch
def segTo (z:ZoneT) : Nat→List SegT × Int × Int
 | 0=>([],0,z.off)
 | n+1=>let p:=segTo z n; let c:=z.ch.getD n ⟨0,0⟩; (if p.2.1 < c.at_ then p.1++[⟨p.2.1,c.at_,p.2.2⟩] else p.1,c.at_,c.off)
theorem segTo_le (z:ZoneT) (n:Nat) : (segTo z n).1.length≤n:=by
 induction n with
 | zero=>simp [segTo]
 | succ n ih =>
  simp only [segTo]
  split
  ·
   simp; omega
  ·
   omega
theorem segN_to (z:ZoneT) : ∀ (r:List ChT) (n:Nat),z.ch.drop n = r→n≤z.ch.length→segs z = (segTo z n).1++segN (segTo z n).2.1 (segTo z n).2.2 r→segs z = (segTo z z.ch.length).1++[⟨(segTo z z.ch.length).2.1,120968640,(segTo z z.ch.length).2.2⟩]
 | [],n,hr,hn,h=>by
  have:n = z.ch.length:=by
   have:=congrArg List.length hr
   simp at this
   omega
  subst this
  rw [h]; rfl
 | c :: r,n,hr,hn,h=>by
  have hlt:n < z.ch.length:=by
   have:=congrArg List.length hr
   simp at this
   omega
  have hc:z.ch.getD n ⟨0,0⟩ = c:=by
   rw [List.getD_eq_getElem?_getD,List.getElem?_eq_getElem hlt]
   rw [List.drop_eq_getElem_cons hlt] at hr
   injection hr with h1 _
  have hr':z.ch.drop (n+1) = r:=by
   rw [List.drop_eq_getElem_cons hlt] at hr
   injection hr
  refine segN_to z r (n+1) hr' hlt ?_
  rw [h]
  simp only [segTo,hc,segN]
  split <;> simp
theorem segs_eq (z:ZoneT) : segs z = (segTo z z.ch.length).1++[⟨(segTo z z.ch.length).2.1,120968640,(segTo z z.ch.length).2.2⟩] :=
 segN_to z z.ch 0 rfl (by omega) rfl
theorem segN_ok : ∀ (r:List ChT) (f o : Int),0≤f→f≤120968639→-840≤o→o≤840→(∀ c ∈ r,(f≤c.at_∧c.at_≤120968639)∧-840≤c.off∧c.off≤840)→r.Pairwise (fun a b=>a.at_ < b.at_) →
  (∀ s ∈ segN f o r,f≤s.f∧s.f < s.t∧s.t≤120968640∧-840≤s.o∧s.o≤840)∧(∃ s ∈ segN f o r,s.t = 120968640)∧(segN f o r).Pairwise (fun a b=>a.t≤b.f)
 | [],f,o,h0,h1,h2,h3,_,_=>by
  refine ⟨fun s hs=>?_,⟨_,List.mem_singleton.2 rfl,rfl⟩,List.pairwise_singleton _ _⟩
  rw [segN,List.mem_singleton] at hs
  subst hs
  exact ⟨Int.le_refl _,by show f < 120968640; omega,Int.le_refl _,h2,h3⟩
 | c :: r,f,o,h0,h1,h2,h3,hr,ha=>by
  obtain ⟨⟨c0,c1⟩,c2,c3⟩:=hr c (by simp)
  rw [List.pairwise_cons] at ha
  obtain ⟨g1,g2,g3⟩:=segN_ok r c.at_ c.off (by omega) c1 c2 c3 (fun d hd=>⟨⟨Int.le_of_lt (ha.1 d hd),(hr d (by simp [hd])).1.2⟩,(hr d (by simp [hd])).2⟩) ha.2
  rw [segN]
  obtain ⟨s9,hs9,ht9⟩:=g2
  refine ⟨fun s hs=>?_,⟨s9,List.mem_append_right _ hs9,ht9⟩,List.pairwise_append.2 ⟨?_,g3,fun a ha' b hb=>?_⟩⟩
  ·
   rcases List.mem_append.1 hs with hs | hs
   ·
    split at hs
    ·
     rw [List.mem_singleton] at hs
     subst hs
     exact ⟨Int.le_refl _,by assumption,by show c.at_≤120968640; omega,h2,h3⟩
    ·
     cases hs
   ·
    obtain ⟨k1,k2,k3,k4⟩:=g1 s hs
    exact ⟨by omega,k2,k3,k4⟩
  ·
   split
   ·
    exact List.pairwise_singleton _ _
   ·
    exact List.Pairwise.nil
  ·
   split at ha'
   ·
    rw [List.mem_singleton] at ha'
    subst ha'
    exact (g1 b hb).1
   ·
    cases ha'
theorem ZoneOk.segs {z:ZoneT} (h:ZoneOk z) : (∀ s ∈ segs z,0≤s.f∧s.f < s.t∧s.t≤120968640∧-840≤s.o∧s.o≤840)∧(∃ s ∈ segs z,s.t = 120968640)∧(segs z).Pairwise (fun a b=>a.t≤b.f) :=
 segN_ok z.ch 0 z.off (by omega) (by omega) h.o.1 h.o.2 (fun c hc=>h.r c hc) h.asc
def firstS (l:Int) : List SegT→Int
 | []=>120968640
 | s :: r=>if max s.f (l - s.o) < s.t then max s.f (l - s.o) else firstS l r
def firstN (z:ZoneT) (l:Int) : Int:=if 120969479 < l then 120968640 else firstS (max l (-840)) (segs z)
theorem firstS_bd {l:Int} : ∀ {r:List SegT},(∀ s ∈ r,0≤s.f∧s.t≤120968640)→0≤firstS l r∧firstS l r≤120968640
 | [],_=>by simp [firstS]
 | s :: r,h=>by
  obtain ⟨h1,h2⟩:=h s (by simp)
  rw [firstS]
  split
  ·
   omega
  ·
   exact firstS_bd fun x hx=>h x (by simp [hx])
theorem firstN_bd {z:ZoneT} (h:ZoneOk z) (l:Int) : 0≤firstN z l∧firstN z l≤120968640:=by
 rw [firstN]
 split
 ·
  omega
 ·
  exact firstS_bd fun s hs=>⟨(h.segs.1 s hs).1,(h.segs.1 s hs).2.2.1⟩
def dayS (t:Int) : List SegT→Int→Int
 | [],g=>g
 | s :: r,g=>if t < s.f then g else dayS t r (max g (min t (s.t - 1)+s.o))
def dayN (z:ZoneT) (t:Int) : Int:=min (dayS t (segs z) 0 / 1440) 84005
theorem dayS_ge (t:Int) : ∀ (r:List SegT) (g:Int),g≤dayS t r g
 | [],g=>Int.le_refl _
 | s :: r,g=>by
  rw [dayS]
  split
  ·
   omega
  ·
   have:=dayS_ge t r (max g (min t (s.t - 1)+s.o)); omega
theorem dayN_bd (z:ZoneT) (t:Int) : 0≤dayN z t∧dayN z t≤84005:=by
 have:=dayS_ge t (segs z) 0
 unfold dayN
 omega
theorem firstS_le {l X : Int} (hX:X < 120968640) (hl:l+840 < 120968640) : ∀ {r:List SegT},(∀ s ∈ r,s.f≤X∧-840≤s.o)→(∃ s ∈ r,s.t = 120968640)→firstS l r≤max X (l+840)
 | [],_,h=>by obtain ⟨s,hs,_⟩:=h; cases hs
 | s :: r,h,⟨u,hu,hut⟩=>by
  have hs:=h s (by simp)
  rw [firstS]
  split
  ·
   omega
  ·
   rename_i hn
   rcases List.mem_cons.1 hu with rfl | hu
   ·
    omega
   ·
    exact firstS_le hX hl (fun x hx=>h x (by simp [hx])) ⟨u,hu,hut⟩
theorem segN_f {X:Int} : ∀ (r:List ChT) (f o : Int),f≤X→(∀ c ∈ r,c.at_≤X)→∀ s ∈ segN f o r,s.f≤X
 | [],f,o,hf,_,s,hs=>by
  rw [segN,List.mem_singleton] at hs
  subst hs
  exact hf
 | c :: r,f,o,hf,hr,s,hs=>by
  rw [segN] at hs
  rcases List.mem_append.1 hs with hs | hs
  ·
   split at hs
   ·
    rw [List.mem_singleton] at hs
    subst hs
    exact hf
   ·
    cases hs
  ·
   exact segN_f r c.at_ c.off (hr c (by simp)) (fun x hx=>hr x (by simp [hx])) s hs
theorem firstN_le {z:ZoneT} (h:ZoneOk z) {l X : Int} (h0:0≤X) (hX:X < 120968640) (hc : ∀ c ∈ z.ch,c.at_≤X) (l0 : -840≤l) (l1:l+840 < 120968640) : firstN z l≤max X (l+840):=by
 rw [firstN,if_neg (by omega),show max l (-840) = l by omega]
 exact firstS_le hX l1 (fun s hs=>⟨segN_f z.ch 0 z.off h0 hc s hs,(h.segs.1 s hs).2.2.2.1⟩) h.segs.2.1
end Go.Proofs.YtopekilofdadnaaGreatDoor
namespace Go.Proofs.YtopekilofdadnaaGreatDoor
open Go.RowKit
structure IvT where
 f:Int
 t:Int
deriving DecidableEq
structure PresT where
 stay:IvT
 br:List IvT
deriving DecidableEq
structure AnomT where
 kind:Int
 time:Int
deriving DecidableEq
structure KeyT where
 term:Int
 seq:Int
deriving DecidableEq
structure StampT where
 time:Int
 kind:Int
 key:KeyT
deriving DecidableEq
structure PairS where
 st:Int
 beg:Int
 pau:Int
 br:List IvT
 ps:List PresT
 an:List AnomT
def PairS.rep (p:PairS) (k t : Int) : PairS:={ p with an:=p.an++[⟨k,t⟩] }
def PairS.enter (p:PairS) (t:Int) : PairS:={ p with st:=1,beg:=t,br:=[] }
def PairS.resume (p:PairS) (t:Int) : PairS:={ p with br:=if p.pau < t then p.br++[⟨p.pau,t⟩] else p.br,st:=1 }
def PairS.leave (p:PairS) (L t : Int) : PairS :=
 { p with ps:=if L < t - p.beg then p.ps else if p.beg < t then p.ps++[⟨⟨p.beg,t⟩,p.br⟩] else p.ps,an:=if L < t - p.beg then p.an++[⟨3,p.beg⟩] else p.an,st:=0,br:=[] }
def PairS.read (p:PairS) (L t k : Int) : PairS :=
 if p.st = 0 then (if k = 1 then p.enter t else p.rep 2 t)
 else if k = 1 then (p.rep 1 p.beg).enter t
 else if p.st = 1 then (if k = 2 then p.leave L t else if k = 3 then { p with st:=2,pau:=t } else p.rep 5 t)
 else if k = 2 then ((p.rep 4 p.pau).resume t).leave L t else if k = 3 then { p.rep 4 p.pau with pau:=t } else p.resume t
def pair0 : PairS:=⟨0,0,0,[],[],[]⟩
def pairTo (L:Int) (l:List StampT) : PairS:=l.foldl (fun p s=>p.read L s.time s.kind) pair0
def pairFin (p:PairS) : PairS:=if p.st = 0 then p else p.rep 1 p.beg
def pairN (L:Int) (l:List StampT) : List PresT × List AnomT:=let p:=pairFin (pairTo L l); (p.ps,p.an)
def brOk (lo hi : Int) : List IvT→Prop
 | []=>lo≤hi
 | b :: r=>lo≤b.f∧b.f < b.t∧brOk b.t hi r
theorem brOk_mono {hi hi' : Int} (h:hi≤hi') : ∀ {l:List IvT} {lo:Int},brOk lo hi l→brOk lo hi' l
 | [],_,k=>Int.le_trans k h
 | _ :: _,_,k=>⟨k.1,k.2.1,brOk_mono h k.2.2⟩
theorem brOk_le : ∀ {l:List IvT} {lo hi : Int},brOk lo hi l→lo≤hi
 | [],_,_,k=>k
 | b :: r,lo,hi,k=>by have:=brOk_le k.2.2; have:=k.1; have:=k.2.1; omega
theorem brOk_snoc {f t hi : Int} (h1:f < t) (h2:t≤hi) : ∀ {l:List IvT} {lo:Int},brOk lo f l→brOk lo hi (l++[⟨f,t⟩])
 | [],_,k=>⟨k,h1,h2⟩
 | _ :: _,_,k=>⟨k.1,k.2.1,brOk_snoc h1 h2 k.2.2⟩
def prOk (lo hi : Int) : List PresT→Prop
 | []=>lo≤hi
 | p :: r=>lo≤p.stay.f∧p.stay.f < p.stay.t∧brOk p.stay.f p.stay.t p.br∧prOk p.stay.t hi r
theorem prOk_mono {hi hi' : Int} (h:hi≤hi') : ∀ {l:List PresT} {lo:Int},prOk lo hi l→prOk lo hi' l
 | [],_,k=>Int.le_trans k h
 | _ :: _,_,k=>⟨k.1,k.2.1,k.2.2.1,prOk_mono h k.2.2.2⟩
theorem prOk_le : ∀ {l:List PresT} {lo hi : Int},prOk lo hi l→lo≤hi
 | [],_,_,k=>k
 | p :: r,lo,hi,k=>by have:=prOk_le k.2.2.2; have:=k.1; have:=k.2.1; omega
theorem prOk_snoc {p:PresT} {hi:Int} (h1:p.stay.f < p.stay.t) (h2:p.stay.t≤hi) (h3:brOk p.stay.f p.stay.t p.br) : ∀ {l:List PresT} {lo:Int},prOk lo p.stay.f l→prOk lo hi (l++[p])
 | [],_,k=>⟨k,h1,h3,h2⟩
 | _ :: _,_,k=>⟨k.1,k.2.1,k.2.2.1,prOk_snoc h1 h2 h3 k.2.2.2⟩
structure PairOk (L now : Int) (p:PairS) : Prop where
 st:p.st = 0 ∨ p.st = 1 ∨ p.st = 2
 n0:0≤now
 b0:p.st ≠ 0→prOk 0 p.beg p.ps
 a0:p.st = 0→prOk 0 now p.ps
 b1:p.st ≠ 0→p.beg≤now
 br1:p.st = 1→brOk p.beg now p.br
 br2:p.st = 2→brOk p.beg p.pau p.br∧p.pau≤now
 len:∀ x ∈ p.ps,x.stay.t - x.stay.f≤L
 an:∀ x ∈ p.an,0≤x.time∧x.time≤now
theorem pair0_ok (L:Int) : PairOk L 0 pair0:=⟨.inl rfl,Int.le_refl _,fun h=>absurd rfl h,fun _=>Int.le_refl _,fun h=>absurd rfl h,fun h=>(by cases h),fun h=>(by cases h),fun x hx=>(by cases hx),fun x hx=>(by cases hx)⟩
theorem an_snoc {l:List AnomT} {k t now now' : Int} (h : ∀ x ∈ l,0≤x.time∧x.time≤now) (hn:now≤now') (h0:0≤t) (h1:t≤now') : ∀ x ∈ l++[⟨k,t⟩],0≤x.time∧x.time≤now':=by
 intro x hx
 rcases List.mem_append.1 hx with hx | hx
 ·
  have:=h x hx; omega
 ·
  rw [List.mem_singleton] at hx; subst hx; exact ⟨h0,h1⟩
section
variable {L now now' k:Int} {p:PairS}
theorem PairOk.later (h:PairOk L now p) (hn:now≤now') : PairOk L now' p :=
 ⟨h.st,by have:=h.n0; omega,h.b0,fun e=>prOk_mono hn (h.a0 e),fun e=>by have:=h.b1 e; omega,fun e=>brOk_mono hn (h.br1 e),fun e=>⟨(h.br2 e).1,by have:=(h.br2 e).2; omega⟩,h.len,fun x hx=>by have:=h.an x hx; omega⟩
theorem PairOk.rep (h:PairOk L now p) (t:Int) (h0:0≤t) (h1:t≤now) (k:Int) : PairOk L now (p.rep k t) :=
 ⟨h.st,h.n0,h.b0,h.a0,h.b1,h.br1,h.br2,h.len,an_snoc h.an (Int.le_refl _) h0 h1⟩
theorem PairOk.beg0 (h:PairOk L now p) (hs:p.st ≠ 0) : 0≤p.beg:=prOk_le (h.b0 hs)
theorem PairOk.enter (h:PairOk L now p) : PairOk L now (p.enter now) :=
 ⟨.inr (.inl rfl),h.n0,fun _=>by
  by_cases e:p.st = 0
  ·
   exact h.a0 e
  ·
   exact prOk_mono (h.b1 e) (h.b0 e),fun e=>(by cases e),fun _=>Int.le_refl _,fun _=>Int.le_refl _,fun e=>(by cases e),h.len,h.an⟩
theorem PairOk.resume (h:PairOk L now p) (hs:p.st = 2) : PairOk L now (p.resume now):=by
 have hne:p.st ≠ 0:=by omega
 obtain ⟨h1,h2⟩:=h.br2 hs
 refine ⟨.inr (.inl rfl),h.n0,fun _=>h.b0 hne,fun e=>(by cases e),fun _=>h.b1 hne,fun _=>?_,fun e=>(by cases e),h.len,h.an⟩
 show brOk p.beg now (if p.pau < now then p.br++[⟨p.pau,now⟩] else p.br)
 split
 ·
  exact brOk_snoc (by assumption) (Int.le_refl _) h1
 ·
  exact brOk_mono h2 h1
theorem PairOk.leave (h:PairOk L now p) (hs:p.st = 1) : PairOk L now (p.leave L now):=by
 have hne:p.st ≠ 0:=by omega
 have hb:=h.b1 hne
 refine ⟨.inl rfl,h.n0,fun e=>absurd rfl e,fun _=>?_,fun e=>absurd rfl e,fun e=>(by cases e),fun e=>(by cases e),?_,?_⟩
 ·
  show prOk 0 now (if L < now - p.beg then p.ps else if p.beg < now then p.ps++[⟨⟨p.beg,now⟩,p.br⟩] else p.ps)
  split
  ·
   exact prOk_mono hb (h.b0 hne)
  ·
   split
   ·
    exact prOk_snoc (p:=⟨⟨p.beg,now⟩,p.br⟩) (by assumption) (Int.le_refl _) (h.br1 hs) (h.b0 hne)
   ·
    exact prOk_mono hb (h.b0 hne)
 ·
  show ∀ x ∈ (if L < now - p.beg then p.ps else if p.beg < now then p.ps++[⟨⟨p.beg,now⟩,p.br⟩] else p.ps),_
  intro x hx
  split at hx
  ·
   exact h.len x hx
  ·
   split at hx
   ·
    rcases List.mem_append.1 hx with hx | hx
    ·
     exact h.len x hx
    ·
     rw [List.mem_singleton] at hx
     subst hx
     show now - p.beg≤L
     omega
   ·
    exact h.len x hx
 ·
  show ∀ x ∈ (if L < now - p.beg then p.an++[⟨3,p.beg⟩] else p.an),_
  split
  ·
   exact an_snoc h.an (Int.le_refl _) (h.beg0 hne) hb
  ·
   exact h.an
theorem PairOk.read (h:PairOk L now p) (hn:now≤now') (k:Int) : PairOk L now' (p.read L now' k):=by
 have h':=h.later hn
 have h0:=h'.n0
 unfold PairS.read
 split
 ·
  split
  ·
   exact h'.enter
  ·
   exact h'.rep _ h0 (Int.le_refl _) _
 ·
  rename_i hne
  have hb:=h'.beg0 hne
  have hb1:=h'.b1 hne
  split
  ·
   exact (h'.rep _ hb hb1 _).enter
  ·
   split
   ·
    rename_i h1
    split
    ·
     exact h'.leave h1
    ·
     split
     ·
      exact ⟨.inr (.inr rfl),h0,fun _=>h'.b0 hne,fun e=>(by cases e),fun _=>hb1,fun e=>(by cases e),fun _=>⟨h'.br1 h1,Int.le_refl _⟩,h'.len,h'.an⟩
     ·
      exact h'.rep _ h0 (Int.le_refl _) _
   ·
    have h2:p.st = 2:=by have:=h'.st; omega
    obtain ⟨k1,k2⟩:=h'.br2 h2
    have hp0:0≤p.pau:=by have:=brOk_le k1; omega
    have hr:=h'.rep p.pau hp0 k2 4
    split
    ·
     exact (hr.resume h2).leave rfl
    ·
     split
     ·
      exact ⟨.inr (.inr h2),h0,fun _=>h'.b0 hne,fun e=>absurd e hne,fun _=>hb1,fun e=>(by have:p.st = 1:=e; omega),fun _=>⟨brOk_mono k2 k1,Int.le_refl _⟩,h'.len,hr.an⟩
     ·
      exact h'.resume h2
end
theorem pairTo_ok (L:Int) : ∀ (l:List StampT) (now:Int) (p:PairS),PairOk L now p→(∀ s ∈ l,now≤s.time)→l.Pairwise (fun a b=>a.time≤b.time)→∀ top,now≤top→(∀ s ∈ l,s.time≤top)→PairOk L top (l.foldl (fun p s=>p.read L s.time s.kind) p)
 | [],now,p,h,_,_,top,ht,_=>h.later ht
 | s :: r,now,p,h,h1,h2,top,ht,h3=>by
  rw [List.pairwise_cons] at h2
  exact pairTo_ok L r s.time _ (h.read (h1 s (by simp)) s.kind) h2.1 h2.2 top (h3 s (by simp)) (fun x hx=>h3 x (by simp [hx]))
theorem pairN_ok {L:Int} {l:List StampT} (h0 : ∀ s ∈ l,0≤s.time∧s.time≤120968639) (h1:l.Pairwise (fun a b=>a.time≤b.time)) :
  prOk 0 120968639 (pairN L l).1∧(∀ x ∈ (pairN L l).1,x.stay.t - x.stay.f≤L)∧∀ x ∈ (pairN L l).2,0≤x.time∧x.time≤120968639:=by
 have h:=pairTo_ok L l 0 pair0 (pair0_ok L) (fun s hs=>(h0 s hs).1) h1 120968639 (by omega) (fun s hs=>(h0 s hs).2)
 have hf:PairOk L 120968639 (pairFin (pairTo L l)):=by
  unfold pairFin
  split
  ·
   exact h
  ·
   rename_i hne
   exact h.rep _ (h.beg0 hne) (h.b1 hne) 1
 refine ⟨?_,hf.len,hf.an⟩
 by_cases e:(pairFin (pairTo L l)).st = 0
 ·
  exact hf.a0 e
 ·
  exact prOk_mono (hf.b1 e) (hf.b0 e)
def PairS.op (p:PairS) : Nat:=if p.st = 0 then 0 else 1
theorem read_count (L t k : Int) (p:PairS) : (p.read L t k).ps.length+(p.read L t k).op≤p.ps.length+p.op+(if k = 1 then 1 else 0):=by
 unfold PairS.op PairS.read PairS.enter PairS.rep PairS.leave PairS.resume
 repeat' split
 all_goals simp_all
 all_goals first | omega | (split <;> first | omega | (split <;> simp <;> omega) | (simp; omega)) | skip
theorem pair_count (L:Int) : ∀ (l:List StampT) (p:PairS),(l.foldl (fun p s=>p.read L s.time s.kind) p).ps.length+(l.foldl (fun p s=>p.read L s.time s.kind) p).op≤p.ps.length+p.op+(l.filter (fun s=>decide (s.kind = 1))).length
 | [],p=>by simp only [List.foldl_nil,List.filter_nil,List.length_nil]; omega
 | s :: r,p=>by
  have h:=pair_count L r (p.read L s.time s.kind)
  have key:=read_count L s.time s.kind p
  rw [List.foldl_cons]
  generalize r.foldl (fun p s=>p.read L s.time s.kind) (p.read L s.time s.kind) = q at *
  generalize p.read L s.time s.kind = p' at *
  rw [List.filter_cons]
  by_cases hk:s.kind = 1
  ·
   have hd:decide (s.kind = 1) = true:=by simpa using hk
   rw [if_pos hk] at key
   rw [if_pos hd,List.length_cons]
   omega
  ·
   have hd:¬ decide (s.kind = 1) = true:=by simpa using hk
   rw [if_neg hk] at key
   rw [if_neg hd]
   omega
end Go.Proofs.YtopekilofdadnaaGreatDoor
