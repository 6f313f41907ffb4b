/- Joined texts: TgM2. Conditions: as stated. -/
import Derived.Test.YtopekilofdadnaaGreatDoorJLeaf
import Derived.Test.YtopekilofdadnaaGreatDoorJBlkOps
import Derived.Test.YtopekilofdadnaaGreatDoorJTgF
namespace Go.Proofs.YtopekilofdadnaaGreatDoor
open Go.RowKit Go.Maps Go.Sort Go.Shelf
structure Keeps2 (w w' : World) (a b : Nat) : Prop where
 os:w'.os = w.os
 tape:w'.tape = w.tape
 output:w'.output = w.output
 size:w.heap.size≤w'.heap.size
 block:∀ i,i < w.heap.size→i ≠ a→i ≠ b→w'.heap[i]? = w.heap[i]?
theorem Keeps2.of {w w1 w' : World} {a b : Nat} (h:w.grownBy w1 (some a)) (k:w1.grownBy w' (some b)) : Keeps2 w w' a b :=
 ⟨k.os.trans h.os,k.tape.trans h.tape,k.output.trans h.output,Nat.le_trans h.size k.size,fun i hi h1 h2=>(k.block i (Nat.lt_of_lt_of_le hi h.size) (fun e=>h2 (by injection e))).trans (h.block i hi (fun e=>h1 (by injection e)))⟩
theorem Keeps2.adv {w w1 w' : World} {a b : Nat} (h:Below w.heap.size w w1) (k:Keeps2 w1 w' a b) : Keeps2 w w' a b :=
 ⟨k.os.trans h.os,k.tape.trans h.tape,k.output.trans h.output,Nat.le_trans h.size k.size,fun i hi h1 h2=>(k.block i (Nat.lt_of_lt_of_le hi h.size) h1 h2).trans (h.block i hi)⟩
theorem Keeps2.setCell {w w' : World} {a b g : Nat} (h:Keeps2 w w' a b) (hg:w.heap.size≤g) (i:Nat) (u:Value) : Keeps2 w (w'.setCell ⟨g,i,none⟩ u) a b :=
 ⟨h.os,h.tape,h.output,by simpa [World.setCell] using h.size,fun j hj h1 h2=>(Below.heap_setCell w' ⟨g,i,none⟩ u j (by show j ≠ g; omega)).trans (h.block j hj h1 h2)⟩
theorem Keeps2.grown6 {w w' w2 : World} {a b g : Nat} (h:Keeps2 w w' a b) (hg:w'.grownBy w2 (some g)) (hn:w.heap.size≤g) : Keeps2 w w2 a b :=
 ⟨hg.os.trans h.os,hg.tape.trans h.tape,hg.output.trans h.output,Nat.le_trans h.size hg.size,fun j hj h1 h2=>(hg.block j (Nat.lt_of_lt_of_le hj h.size) (fun e=>by injection e; omega)).trans (h.block j hj h1 h2)⟩
theorem Keeps2.below {w w' : World} {a b B : Nat} (h:Keeps2 w w' a b) (hB:B≤w.heap.size) (ha:B≤a) (hb:B≤b) : Below B w w' :=
 ⟨h.os,h.tape,h.output,h.size,fun i hi=>h.block i (by omega) (by omega) (by omega)⟩
theorem Keeps2.blk {w w' : World} {a b g : Nat} {t:TypeId} {cs:Array Value} (h:Keeps2 w w' a b) (hB:Blk w g t cs) (h1:g ≠ a) (h2:g ≠ b) : Blk w' g t cs:=(h.block g hB.lt h1 h2).trans hB
theorem Keeps2.split {w w' : World} {a b : Nat} (h:Keeps2 w w' a b) : ∃ w1,w.grownBy w1 (some a)∧w1.grownBy w' (some b):=by
 by_cases hb:b < w.heap.size
 ·
  refine ⟨{ w' with heap:=w'.heap.setIfInBounds b w.heap[b] },⟨h.os,h.tape,h.output,by simpa using h.size,fun i hi hne=>?_⟩,⟨rfl,rfl,rfl,by simp,fun i hi hne=>?_⟩⟩
  ·
   have h3:=h.size
   by_cases e:i = b
   ·
    subst e
    show (w'.heap.setIfInBounds i _)[i]? = _
    rw [Array.getElem?_setIfInBounds_self_of_lt (by omega),Array.getElem?_eq_getElem hb]
   ·
    show (w'.heap.setIfInBounds b _)[i]? = _
    rw [Array.getElem?_setIfInBounds_ne (by omega)]
    exact h.block i hi (fun e2=>hne (by rw [e2])) e
  ·
   show _ = (w'.heap.setIfInBounds b _)[i]?
   rw [Array.getElem?_setIfInBounds_ne (fun e2=>hne (by rw [e2]))]
 ·
  exact ⟨w',⟨h.os,h.tape,h.output,h.size,fun i hi hne=>h.block i hi (fun e=>hne (by rw [e])) (by omega)⟩,only_refl _ _⟩
theorem MapC.keeps {P:Program} {k:TypeId} {κ:Type} {E:KeyE P k κ} {w w' : World} {g n a b : Nat} {v:Value} (h:MapC E w g n v) (hk:Keeps2 w w' a b) (h1:g ≠ a) (h2:g ≠ b) : MapC E w' g n v:=by
 obtain ⟨w1,g1,g2⟩:=hk.split
 exact (h.kept g1 (fun e=>h1 (by injection e))).kept g2 (fun e=>h2 (by injection e))
section
set_option maxHeartbeats 8000000
set_option maxRecDepth 100000
def ShowPost (base q gy gd N : Nat) (w:World) (e:Ending) (w' : World) : Prop:=(∃ a b : Int,e = .returned (.agg #[.int .i64 a,.int .i64 b,.bool false]))∧AlmIn w' base q gy gd (N+4)∧Keeps2 w w' gy gd
theorem tdiv_bd (m:Int) (h0 : -840≤m) (h1:m≤120969479) : 0≤m.tdiv 1440∧m.tdiv 1440≤84006∧-840≤m.tmod 1440∧m.tmod 1440≤1439:=by
 have e:=Int.mul_tdiv_add_tmod m 1440
 by_cases h:0≤m
 ·
  have e1:=Int.tdiv_eq_ediv_of_nonneg h (b:=1440)
  omega
 ·
  have e1:m.tdiv 1440 = -((-m).tdiv 1440):=by rw [Int.neg_tdiv,Int.neg_neg]
  have e2:=Int.tdiv_eq_ediv_of_nonneg (show 0≤-m by omega) (b:=1440)
  omega
theorem showM (base q gy gd N : Nat) (z:ZoneM) (t:Int) (w:World) (hz:ZoneOk z.t) (hS:z.In w) (hL:Lens w) (h:AlmIn w base q gy gd N) (_hbase:base≤w.heap.size) (h0:0≤t) (h1:t≤120968639) (hN:N≤10000000) :
  Calls Tryz.prog 105 #[z.val,.pointer (some ⟨q,0,none⟩),.int .i64 t] w (ShowPost base q gy gd N w):=by
 obtain ⟨zo,A,c,l⟩:=z
 have HZ:=Lib.hid hz
 have hS0:SliceOf encCh 2 w w.heap.size A l:=hS
 have hw1:=below_new w (.cells #[.int .i64 zo,.slice A l.length c] 27)
 have hw2:=bel_adv hw1 (below_new _ (.cells #[.int .i64 0,.int .i64 0,.bool false] 236))
 have hB:=Blk.new (w.alloc (.cells #[.int .i64 zo,.slice A l.length c] 27)) 236 #[.int .i64 0,.int .i64 0,.bool false]
 rw [World.size_alloc] at hB
 have HS2:=Lib.hid (SliceOf.adv hS0 hw2)
 have HA2:=Lib.hid (h.adv hw2)
 have HL2:=Lib.hid (hL.adv hw2)
 have hgl:=h.y.lt
 have hql:=h.blk.lt
 have hgl2:=h.d.lt
 clear hz hS h hL
 show Calls Tryz.prog 105 #[.agg #[.int .i64 zo,.slice A l.length c],.pointer (some ⟨q,0,none⟩),.int .i64 t] w _
 go_enter Tryz.func105,Tryz.ntmps105
 go_wp2_with fail
 refine (localC ⟨zo,A,c,l⟩ t _ HZ.out HS2.out h0 h1).mono ?_
 rintro e w3 ⟨o,rfl,o1,o2,hb3⟩
 have HB3:=Lib.hid (hB.adv hb3)
 have HA3:=Lib.hid (HA2.out.adv hb3)
 have HL3:=Lib.hid (HL2.out.adv hb3)
 have hbel3:=bel_adv hw2 hb3
 have hbs3:=hbel3.size
 have HK3:=Lib.hid hbel3
 clear hb3 hw1 hw2 hbel3 hB
 obtain ⟨m1,m2⟩ : -840≤t+o∧t+o≤120969479:=by omega
 clear o1 o2
 generalize t+o = m at m1 m2 ⊢
 obtain ⟨t1,t2,t3,t4⟩:=tdiv_bd m m1 m2
 generalize hD:m.tdiv 1440 = D at t1 t2
 generalize hR:m.tmod 1440 = R at t3 t4
 by_cases hr:R < 0
 ·
  go_wp2_with fail
  refine (holidayM base q gy gd N _ _ HL3.out HA3.out (by omega) hN).mono ?_
  rintro e w4 ⟨rfl,hA4,w5,hg4,hg5⟩
  have hk4:=Keeps2.of hg4 hg5
  have HB4:=Lib.hid (hk4.blk HB3.out (by omega) (by omega))
  have hlt4:=HB4.out.lt
  have HK4:=Lib.hid (Keeps2.adv HK3.out hk4)
  have HA4:=Lib.hid hA4
  have hsz4:=hk4.size
  clear hk4 hg4 hg5 hA4
  go_wp2_with (refine wpList_store_blk rfl _ _ _ rfl rfl (w.heap.size+1) (cs:=#[.int .i64 0,.int .i64 0,.bool false]) rfl rfl HB4.out rfl (by kernel_rfl) rfl ?_; intro w6 hB6 hg6)
  have hk6:=HK4.out.grown6 hg6 (by omega)
  have hA6:=HA4.out.kept hg6 (by omega) (by omega) (by omega)
  have hl6:=hB6.lt
  have HB6:=Lib.hid hB6
  clear hB6 hg6
  go_wp2
  exact bodyPost_ret (results_blk rfl rfl HB6.out Tryz.underlying236 rfl (by kernel_rfl)) rfl ⟨⟨_,_,rfl⟩,hA6,hk6⟩
 ·
  go_wp2_with fail
  refine (holidayM base q gy gd N _ _ HL3.out HA3.out (by omega) hN).mono ?_
  rintro e w4 ⟨rfl,hA4,w5,hg4,hg5⟩
  have hk4:=Keeps2.of hg4 hg5
  have HB4:=Lib.hid (hk4.blk HB3.out (by omega) (by omega))
  have hlt4:=HB4.out.lt
  have HK4:=Lib.hid (Keeps2.adv HK3.out hk4)
  have HA4:=Lib.hid hA4
  have hsz4:=hk4.size
  clear hk4 hg4 hg5 hA4
  go_wp2_with (refine wpList_store_blk rfl _ _ _ rfl rfl (w.heap.size+1) (cs:=#[.int .i64 0,.int .i64 0,.bool false]) rfl rfl HB4.out rfl (by kernel_rfl) rfl ?_; intro w6 hB6 hg6)
  have hk6:=HK4.out.grown6 hg6 (by omega)
  have hA6:=HA4.out.kept hg6 (by omega) (by omega) (by omega)
  have hl6:=hB6.lt
  have HB6:=Lib.hid hB6
  clear hB6 hg6
  go_wp2
  exact bodyPost_ret (results_blk rfl rfl HB6.out Tryz.underlying236 rfl (by kernel_rfl)) rfl ⟨⟨_,_,rfl⟩,hA6,hk6⟩
end
end Go.Proofs.YtopekilofdadnaaGreatDoor
