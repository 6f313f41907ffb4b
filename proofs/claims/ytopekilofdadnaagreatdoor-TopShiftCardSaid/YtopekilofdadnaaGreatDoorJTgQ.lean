/- Joined texts: TgQ. Conditions: as stated. -/
import Derived.Test.YtopekilofdadnaaGreatDoorJLeaf
import Derived.Test.YtopekilofdadnaaGreatDoorJData3
import Derived.Test.YtopekilofdadnaaGreatDoorJBox
namespace Go.Proofs.YtopekilofdadnaaGreatDoor
open Go.RowKit
section
variable {α β:Type} {enc:α→List Value} {enc2:β→List Value} {k k2:Nat} {e e2 t:TypeId} {w w':World} {base base2:Nat} {v v2:Value} {xs:List α} {ys:List β} {row:Option Nat}
theorem Own.keptNe (h:Own enc k e w base v xs) (hg:w.grownBy w' row) (hne : ∀ g,v.ownBlock = some g→row ≠ some g) : Own enc k e w' base v xs:=by
 refine World.ownsRow.kept h hg ?_
 cases hv:v.ownBlock with
 | none=>exact .inl rfl
 | some g=>exact .inr (fun he=>hne g hv he.symm)
theorem Own.obj (h:Own enc k e w base v xs) {g:Nat} (hg:v.ownBlock = some g) : ∃ cur,w.heap[g]? = some (.cells cur e (0,0)):=by
 rcases h.2 with ⟨rfl,_⟩ | ⟨g',cap,cur,rfl,_,hb,_⟩
 ·
  cases hg
 ·
  injection hg with hg
  subst hg
  exact ⟨cur,hb⟩
theorem Own.types (h:Own enc k e w base v xs) (h2:Own enc2 k2 e2 w base2 v2 ys) (he:e ≠ e2) {g:Nat} (hg:v.ownBlock = some g) : v2.ownBlock ≠ some g:=fun hg2=>by
 obtain ⟨c1,h1⟩:=h.obj hg
 obtain ⟨c2,h2⟩:=h2.obj hg2
 rw [h1] at h2
 injection h2 with h2
 injection h2 with _ h2
 exact he h2
theorem Own.notBlk (h:Own enc k e w base v xs) {g:Nat} {cs:Array Value} (hB:Blk w g t cs) (he:e ≠ t) : v.ownBlock ≠ some g:=fun hg=>by
 obtain ⟨c1,h1⟩:=h.obj hg
 unfold Blk at hB
 rw [h1] at hB
 injection hB with hB
 injection hB with _ hB
 exact he hB
theorem Own.slice (h:Own enc k e w base v xs) (hk : ∀ x,(enc x).length = k) : ∃ A c,v = .slice A xs.length c:=by
 obtain ⟨A,c,hv,_⟩:=h.form hk
 exact ⟨A,c,hv⟩
end
theorem wp_region_app {P:Program} {id:Nat} {Q:Exit→Act→World→Prop} {a aE : Act} {W:World} {L:List Oper} {α:Type} {enc:α→List Value} {k:Nat} {e tb : TypeId} {base:Nat} {v:Value} {xs:List α} {cs:Array Value}
  (is:List Nat) (ia ib i1 i2 ix:Nat) {da db d1 d2:Nat} {oa ob o1 o2 ox:Oper} (y:α) (g off:Nat) (s:Operand) (t:TypeId) (bytes:Nat) (z p1:Value)
  (hm:P.follows .mixedOrders = true) (hs:Region.noSelect L.toArray = true) (hn:5+is.length = L.length)
  (hi:(is.all (fun i=>decide (i < L.toArray.size)) && is.all (M5.lastOf .any L.toArray ix) && M3.lexSel .any L.toArray is (Array.replicate L.length false)) = true) (hd:M3.dstsOk a.tmps.size (M3.opsAt L.toArray is) = true) (hne:(decide (ia ≠ ix) && decide (ib ≠ ix) && decide (i1 ≠ ix) && decide (i2 ≠ ix)) = true)
  (r1:Region.ready .any L.toArray (M3.listSel is (Array.replicate L.length false)) = [ia]) (r2:Region.ready .any L.toArray ((M3.listSel is (Array.replicate L.length false)).setIfInBounds ia true) = [ib])
  (r3:Region.ready .any L.toArray (((M3.listSel is (Array.replicate L.length false)).setIfInBounds ia true).setIfInBounds ib true) = [i1])
  (r4:Region.ready .any L.toArray ((((M3.listSel is (Array.replicate L.length false)).setIfInBounds ia true).setIfInBounds ib true).setIfInBounds i1 true) = [i2])
  (r5:Region.ready .any L.toArray (((((M3.listSel is (Array.replicate L.length false)).setIfInBounds ia true).setIfInBounds ib true).setIfInBounds i1 true).setIfInBounds i2 true) = [ix])
  (r6:Region.ready .any L.toArray ((((((M3.listSel is (Array.replicate L.length false)).setIfInBounds ia true).setIfInBounds ib true).setIfInBounds i1 true).setIfInBounds i2 true).setIfInBounds ix true) = [])
  (hoa:L.toArray[ia]? = some oa) (hob:L.toArray[ib]? = some ob) (ho1:L.toArray[i1]? = some o1) (ho2:L.toArray[i2]? = some o2) (hox:L.toArray[ix]? = some ox)
  (hda:oa.dst = some da) (hdb:ob.dst = some db) (hd1:o1.dst = some d1) (hd2:o2.dst = some d2) (hdx:ox.dst = none)
  (hga:oa.guard = none) (hgb:ob.guard = none) (hg1:o1.guard = none) (hg2:o2.guard = none) (hgx:ox.guard = none)
  (hbo:ob.op = .call { callee:=.builtin .append,args:=#[s,.tmp da],argTypes:=#[t,t] })
  (hinfo:(P.info? e).map (fun i=>(i.zero,i.size,i.bytes)) = some (some z,k,bytes)) (ht:P.underlying t = some (.slice e))
  (hown:Own enc k e W base v xs) (hblk:Blk W g tb cs) (hk:∀ x,(enc x).length = k) (hk0:0 < k) (hzs:z.cells.size = k) (h1:∀ u ∈ enc y,u.oneCell' = true)
  (hlen:xs.length < 4294967296) (hby:bytes≤1024) (hbase:base≤W.heap.size) (hgn:v.ownBlock ≠ some g)
  (H:∀ F:World→Prop,Stable F→Inhabited (BwC (fun w'=>W.grownBy w' v.ownBlock) F)→wpQuiet P L.toArray (fun w'=>∃ p:BwC (fun w'=>W.grownBy w' v.ownBlock) F,w' = p.w') (fun a'=>a' = aE) (M3.opsAt L.toArray is) a)
  (Ea:∀ w,(execOp aE.eval oa).run P w = .ok (.value (.slice (some ⟨w.heap.size,0,none⟩) 1 1)) (w.alloc (.cells (enc y).toArray e)))
  (Es:∀ u,(aE.put (some da) u).eval s = v∧(aE.put (some da) u).eval (.tmp da) = u)
  (E1:∀ u x w,(execOp ((aE.put (some da) u).put (some db) x).eval o1).run P w = .ok (.value p1) w)
  (E2:∀ u x w,(execOp (((aE.put (some da) u).put (some db) x).put (some d1) p1).eval o2).run P w = .ok (.value (.pointer (some ⟨g,off,none⟩))) w)
  (Ex:∀ u A n c w,Blk w g tb cs→(execOp ((((aE.put (some da) u).put (some db) (.slice A n c)).put (some d1) p1).put (some d2) (.pointer (some ⟨g,off,none⟩))).eval ox).run P w = .ok .skip (w.setCell ⟨g,off,none⟩ (.slice A n c)))
  (M:∀ u A c w2,Own enc k e w2 base (.slice A (xs.length+1) c) (xs++[y])→W.grownBy w2 v.ownBlock→((Value.slice A (xs.length+1) c).ownBlock = v.ownBlock ∨ ∃ q,W.heap.size≤q∧(Value.slice A (xs.length+1) c).ownBlock = some q) →
   Q .normal (((((aE.put (some da) u).put (some db) (.slice A (xs.length+1) c)).put (some d1) p1).put (some d2) (.pointer (some ⟨g,off,none⟩))).put none undef) (w2.setCell ⟨g,off,none⟩ (.slice A (xs.length+1) c))) : (Code.region id L.toArray true).wp P Q a W:=by
 simp only [Bool.and_eq_true,decide_eq_true_eq] at hne
 obtain ⟨⟨⟨n1,n2⟩,n3⟩,n4⟩:=hne
 obtain ⟨i,hi',hz,hsz,hb⟩:=info_parts hinfo
 have hgl:=hblk.lt
 refine M5.wp_region_sel (C:=fun w'=>W.grownBy w' v.ownBlock) (fun w1 w2 h hb=>only_adv h hb) (only_refl _ _) is 5 ix hm hs hn hi hd H ?_
 intro Q0 hQ0
 refine M5.mix_one ia r1 n1 ?_
 intro w1 hC1 hb1
 refine M3.mix_val (.slice (some ⟨w1.heap.size,0,none⟩) 1 1) (w1.alloc (.cells (enc y).toArray e)) hoa (by simp [Region.wanted,hga]) (Ea _) ⟨only_alloc hC1 _,?_⟩
 rw [hda]
 refine M5.mix_one ib r2 n2 ?_
 intro w2 hC2 hb2
 have hy:Blk w2 w1.heap.size e (enc y).toArray:=(Blk.new _ _ _).adv hb2
 have hown2:Own enc k e w2 base v xs:=((hown.adv hb1).alloc _).adv hb2
 have hs2:W.heap.size≤w2.heap.size:=hC2.size
 obtain ⟨v',w3,hrun,h2,h3,_,h5⟩:=run_append_own_at (P:=P) w2 base t ob.type e i z k bytes ht hi' hz hsz hb hzs hk0 v xs.length (xs.flatMap enc) hown2 ⟨w1.heap.size,0,none⟩ 1 1 (enc y) (by rw [hk]; omega)
  (by
   intro j u hj
   have hadd:(⟨w1.heap.size,0,none⟩ : Addr).add j = ⟨w1.heap.size,j,none⟩:=by unfold Addr.add; split <;> simp_all
   rw [hadd,hy.cell]
   simpa using hj) h1 (by unfold maxLen; omega)
  (by
   have:(xs.length+1) * bytes≤4294967296 * 1024:=Nat.mul_le_mul (by omega) hby
   omega) (by omega)
 have hown3:Own enc k e w3 base v' (xs++[y]):=by
  unfold Own
  rw [List.length_append,List.flatMap_append]
  simpa using h2
 have hC3:W.grownBy w3 v.ownBlock:=only_trans hC2 h3
 obtain ⟨A,c,hv'⟩:=hown3.slice hk
 rw [List.length_append,List.length_singleton] at hv'
 subst hv'
 refine M3.mix_val (.slice A (xs.length+1) c) w3 hob (by simp [Region.wanted,hgb]) (by
  unfold execOp
  simp only [hbo,resolve,invoke,builtin,Sem.run_bind,Sem.run_pure,Result.andThen_ok,List.map_toArray,List.map_cons,List.map_nil,(Es _).1,(Es _).2,hrun]) ⟨hC3,?_⟩
 rw [hdb]
 refine mix_pure5 i1 p1 r3 n3 ho1 hg1 (fun w=>E1 _ _ w) ?_
 rw [hd1]
 refine mix_pure5 i2 (.pointer (some ⟨g,off,none⟩)) r4 n4 ho2 hg2 (fun w=>E2 _ _ w) ?_
 rw [hd2]
 refine M5.mix_last r5 r6 ?_
 intro w4 hC4 hb4
 refine M3.mix_skip (w4.setCell ⟨g,off,none⟩ (.slice A (xs.length+1) c)) hox (by simp [Region.wanted,hgx]) (Ex _ _ _ _ w4 (hblk.grown hC4 (fun e=>hgn e.symm))) ?_
 rw [hdx]
 refine hQ0 _ _ (M _ A c w4 (hown3.adv hb4) hC4 ?_)
 rcases h5 with h5 | h5
 ·
  exact .inl h5
 ·
  exact .inr ⟨_,hs2,h5⟩
theorem BwC.cellG {F:World→Prop} {W:World} {row:Option Nat} {a:Addr} {v:Value} (hlt:a.block < W.heap.size) (hne:row ≠ some a.block) (h:W.cell? a = some v) (p:BwC (fun w'=>W.grownBy w' row) F) : p.w'.cell? a = some v :=
 (World.cell?_of_block (p.h.block a.block hlt (fun e=>hne e.symm))).trans h
end Go.Proofs.YtopekilofdadnaaGreatDoor
