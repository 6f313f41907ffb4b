/- Joined texts: Data3 AppAt. Conditions: as stated. -/
import Derived.Deep.RegionLaw
import Derived.Maps.AppendAt
import Derived.Test.YtopekilofdadnaaGreatDoorJTvN
namespace Go.Proofs.YtopekilofdadnaaGreatDoor
open Go.RowKit
theorem SliceOf.take {α:Type} {enc:α→List Value} {k:Nat} {w:World} {B:Nat} {A:Option Addr} {xs:List α} (h:SliceOf enc k w B A xs) (i:Nat) : SliceOf enc k w B A (xs.take i):=fun hne=>by
 have hx:xs ≠ []:=by intro e; subst e; simp at hne
 obtain ⟨b,off,e,hb,hc⟩:=h hx
 refine ⟨b,off,e,hb,fun j x hj l u hl=>hc j x ?_ l u hl⟩
 rw [List.getElem?_take] at hj
 split at hj
 ·
  exact hj
 ·
  cases hj
theorem run_append_list {P:Program} {α:Type} {enc:α→List Value} {k:Nat} {e:TypeId} {W:World} {base B : Nat} {v:Value} {xs ys : List α} {A:Option Addr} {m:Nat} (t ty : TypeId) (c bytes : Nat) (z:Value)
  (hinfo:(P.info? e).map (fun i=>(i.zero,i.size,i.bytes)) = some (some z,k,bytes)) (ht:P.underlying t = some (.slice e))
  (hown:Own enc k e W base v xs) (hys:SliceOf enc k W B A ys) (hk:∀ x,(enc x).length = k) (hk0:0 < k) (hzs:z.cells.size = k) (h1:∀ y,∀ u ∈ enc y,u.oneCell' = true)
  (hlen:xs.length+ys.length≤4294967296) (hby:bytes≤1024) (hbase:base≤W.heap.size) (hm:m = ys.length) :
  ∃ v' w',(Builtin.append_ #[t,t] ty #[v,.slice A m c]).run P W = .ok v' w'∧Own enc k e w' base v' (xs++ys)∧W.grownBy w' v.ownBlock:=by
 subst hm
 obtain ⟨i,hi,hz,hsz,hb⟩:=info_parts hinfo
 have hl:(ys.flatMap enc).length = ys.length * k:=by
  clear hys hlen
  induction ys with
  | nil=>simp
  | cons y ys ih=>rw [List.flatMap_cons,List.length_append,ih,hk,List.length_cons,Nat.succ_mul]; omega
 have hbb:(xs.length+ys.length) * bytes≤140737488355328:=by
  have:(xs.length+ys.length) * bytes≤4294967296 * 1024:=Nat.mul_le_mul hlen hby
  omega
 have h1':∀ u ∈ ys.flatMap enc,u.oneCell' = true:=by
  intro u hu
  obtain ⟨y,_,hy⟩:=List.mem_flatMap.1 hu
  exact h1 y u hy
 rcases A with _ | ad
 ·
  have hy0:ys = []:=by
   rcases ys with _ | ⟨y,ys⟩
   ·
    rfl
   ·
    obtain ⟨b,off,hA,_⟩:=hys (by simp)
    cases hA
  subst hy0
  exact ⟨v,W,run_append_of_nil (P:=P) W base t ty e i k ht hi v xs.length (xs.flatMap enc) hown c,by simpa using hown,only_refl _ _⟩
 ·
  have hcells:∀ j u,(ys.flatMap enc)[j]? = some u→W.cell? (ad.add j) = some u:=by
   intro j u hu
   have hj:j < ys.length * k:=by rw [← hl]; exact (List.getElem?_eq_some_iff.1 hu).1
   have hne:ys ≠ []:=by intro e; subst e; simp at hj
   obtain ⟨b,off,hA',hb,hc⟩:=hys hne
   injection hA' with hA
   subst hA
   have hadd:(⟨b,off,none⟩ : Addr).add j = ⟨b,off+j,none⟩:=by unfold Addr.add; split <;> simp_all
   rw [hadd]
   have hi':j / k < ys.length:=Nat.div_lt_of_lt_mul (by rw [Nat.mul_comm]; exact hj)
   have hmod:j % k < k:=Nat.mod_lt _ hk0
   have hy:=List.getElem?_eq_getElem hi'
   have he : (enc ys[j / k])[j % k]? = some ((enc ys[j / k])[j % k]'(by rw [hk]; exact hmod)) := List.getElem?_eq_getElem _
   have h2:=flatMap_at hk ys (j / k) (j % k) _ _ hy he
   have h3:=hc _ _ hy _ _ he
   have h4:j / k * k+j % k = j:=by rw [Nat.mul_comm]; exact Nat.div_add_mod j k
   rw [h4,hu] at h2
   rw [Nat.add_assoc,h4] at h3
   rw [h3,← h2]
  obtain ⟨v',w',hr,h2,h3,_⟩:=run_append_own_at (P:=P) W base t ty e i z k bytes ht hi hz hsz hb hzs hk0 v xs.length (xs.flatMap enc) hown ad ys.length c (ys.flatMap enc) hl hcells h1' (by unfold maxLen; omega) hbb hbase
  refine ⟨v',w',hr,?_,h3⟩
  unfold Own
  rw [List.length_append,List.flatMap_append]
  exact h2
end Go.Proofs.YtopekilofdadnaaGreatDoor
namespace Go.Proofs.YtopekilofdadnaaGreatDoor
open Go.RowKit
theorem wpList_append_one_at {P:Program} {α:Type} {enc:α→List Value} {k:Nat} {e:TypeId} {W:World} {base:Nat} {v:Value} {xs:List α}
  {ops:Array Oper} {rest:List Oper} {o:Oper} {a:Act} {Q:Exit→Act→World→Prop} {cs:Array Value} {H:Nat} (s x:Operand) (t:TypeId) (y:α) (c bytes:Nat) (z:Value)
  (hinfo:(P.info? e).map (fun i=>(i.zero,i.size,i.bytes)) = some (some z,k,bytes)) (ht:P.underlying t = some (.slice e))
  (hown:Own enc k e W base v xs) (hk:∀ x,(enc x).length = k) (hk0:0 < k) (hzs:z.cells.size = k) (h1:∀ u ∈ enc y,u.oneCell' = true)
  (hlen:xs.length < 4294967296) (hby:bytes≤1024) (hbase:base≤W.heap.size)
  (hgd:o.guard = none) (ho:o.op = .call { callee:=.builtin .append,args:=#[s,x],argTypes:=#[t,t] })
  (hs:a.eval s = v) (hx:a.eval x = .slice (some ⟨H,0,none⟩) 1 c) (hH:W.heap.size = H) (hcs:cs = (enc y).toArray)
  (h:∀ v' w',Own enc k e w' base v' (xs++[y])→W.grownBy w' v.ownBlock→(v'.ownBlock = v.ownBlock ∨ v'.ownBlock = some (W.heap.size+1))→wpList P ops Q rest (a.put o.dst v') w') :
  wpList P ops Q (o :: rest) a (W.alloc (.cells cs e)):=by
 subst hcs
 subst hH
 obtain ⟨i,hi,hz,hsz,hb⟩:=info_parts hinfo
 refine wpList_append_own_at _ hgd s x t ho base e i z k bytes ht hi hz hsz hb hzs hk0 v xs.length (xs.flatMap enc) hs (hown.alloc _) ⟨W.heap.size,0,none⟩ 1 c (enc y) hx (by rw [hk]; omega) ?_ h1
  (by unfold maxLen; omega) ?_ (by simp; omega) ?_
 ·
  intro j u hj
  have hadd:(⟨W.heap.size,0,none⟩ : Addr).add j = ⟨W.heap.size,j,none⟩:=by unfold Addr.add; split <;> simp_all
  rw [hadd,World.cell?_alloc_at _ _ _ _ rfl]
  simpa using hj
 ·
  have:(xs.length+1) * bytes≤4294967296 * 1024:=Nat.mul_le_mul (by omega) hby
  omega
 ·
  intro v' w' h2 h3 _ h5
  refine h v' w' ?_ ?_ (by rw [World.size_alloc] at h5; exact h5)
  ·
   unfold Own
   rw [List.length_append,List.flatMap_append]
   simpa using h2
  ·
   exact ⟨h3.os,h3.tape,h3.output,Nat.le_trans (by simp) h3.size,fun i hi hne=>(h3.block i (by simp; omega) hne).trans (Below.heap_alloc W _ i hi)⟩
end Go.Proofs.YtopekilofdadnaaGreatDoor
