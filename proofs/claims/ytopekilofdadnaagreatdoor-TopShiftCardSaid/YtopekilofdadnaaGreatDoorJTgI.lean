/- Joined texts: TgI TgDa. Conditions: as stated. -/
import Derived.Deep.QuietTactic
import Derived.BigQuiet
import Derived.Test.YtopekilofdadnaaGreatDoorJTvN
import Derived.Test.YtopekilofdadnaaGreatDoorJOwnSet
import Derived.Test.YtopekilofdadnaaGreatDoorJTgE
import Derived.Test.YtopekilofdadnaaGreatDoorJBlkOps
import Derived.Test.YtopekilofdadnaaGreatDoorJTgQ
import Derived.Test.YtopekilofdadnaaGreatDoorJTgC3
import Derived.Test.YtopekilofdadnaaGreatDoorJIterC
import Derived.Test.YtopekilofdadnaaGreatDoorJMapV
namespace Go.Proofs.YtopekilofdadnaaGreatDoor
open Go.RowKit Go.Sort Go.Shelf
section
set_option maxHeartbeats 2000000
set_option maxRecDepth 100000
theorem eqKey (a c x y : Int) (w:World) : Sem.run Tryz.prog (binOp .eql 39 (.agg #[.int .i64 a,.int .i64 c]) (.agg #[.int .i64 x,.int .i64 y])) w = .ok (.bool (a == x && c == y)) w:=by
 have u0:=Tryz.underlying3
 have a0:=Tryz.isAgg3
 have z0:=Tryz.sizeOf3
 have hS:Tryz.prog.underlying 39 = some (.struct (Tryz.prog.fieldsOf 39)):=by kernel_rfl
 have hp:Tryz.prog.stoodInHeld 39 = false:=by kernel_rfl
 rw [run_eql_struct,show (10000:Nat) = 9999+1 from rfl,run_equalIn_agg w 9999 39 _ _ hS hp]
 simp only [Program.fieldsOf,Tryz.underlying39]
 by_cases h1:a = x
 ·
  subst h1
  by_cases h2:c = y
  ·
   subst h2
   go_simp
  ·
   go_simp
 ·
  go_simp
theorem validKeyI (k:KeyT) (w:World) (h1:0≤k.term∧k.term≤65535) (h2:0≤k.seq∧k.seq≤2147483647) : Calls Tryz.prog 162 #[.agg #[.int .i64 k.term,.int .i64 k.seq]] w fun e w'=>e = .returned (.bool true)∧Below w.heap.size w w':=by
 obtain ⟨a1,a2⟩:=h1
 obtain ⟨b1,b2⟩:=h2
 go_enter Tryz.func162,Tryz.ntmps162
 go_wp2
 go_ret
 exact ⟨by simp,below_new _ _⟩
theorem recValidI (x:EvT) (w:World) (hx:EvOk x) : Calls Tryz.prog 115 #[evAgg x] w fun e w'=>e = .returned (.bool true)∧Below w.heap.size w w':=by
 have HX:=Lib.hid hx
 have hk:=hx.kind
 obtain ⟨e1,e2⟩:=hx.emp
 obtain ⟨t1,t2⟩:=hx.time
 have hk6:x.kind = 1 ∨ x.kind = 2 ∨ x.kind = 3 ∨ x.kind = 4 ∨ x.kind = 5 ∨ x.kind = 6:=by omega
 have hn:x.kind≤4→x.target.term = 0∧x.target.seq = 0:=fun h=>by rw [hx.none h]; exact ⟨rfl,rfl⟩
 have HN:=Lib.hid hn
 have HT:=Lib.hid hx.targ
 have hB:=Blk.new w 41 #[.int .i64 x.key.term,.int .i64 x.key.seq,.int .i64 x.emp,.int .i64 x.time,.int .i64 x.kind,.int .i64 x.target.term,.int .i64 x.target.seq]
 have hb0:=below_new w (.cells #[.int .i64 x.key.term,.int .i64 x.key.seq,.int .i64 x.emp,.int .i64 x.time,.int .i64 x.kind,.int .i64 x.target.term,.int .i64 x.target.seq] 41)
 have hq:=fun (x y:Int) (w:World)=>eqKey x y 0 0 w
 clear hx hk hn
 show Calls Tryz.prog 115 #[.agg #[.int .i64 x.key.term,.int .i64 x.key.seq,.int .i64 x.emp,.int .i64 x.time,.int .i64 x.kind,.int .i64 x.target.term,.int .i64 x.target.seq]] w _
 rcases hk6 with hk | hk | hk | hk | hk | hk
 all_goals
  rw [hk] at HN HT hB hb0 ⊢
  clear hk
  go_enter Tryz.func115,Tryz.ntmps115
  go_wp2_with fail
  refine (validKeyI x.key _ HX.out.term HX.out.seq).mono ?_
  rintro e w1 ⟨rfl,hb1⟩
  have hB1:=hB.adv hb1
  have hbel:=bel_adv hb0 hb1
  have z0:=hB1.cell 0
  have z1:=hB1.cell 1
  have z2:=hB1.cell 2
  have z3:=hB1.cell 3
  have z4:=hB1.cell 4
  have z5:=hB1.cell 5
  have z6:=hB1.cell 6
  simp only [nqg,nqh,nqi] at z0 z1 z2 z3 z4 z5 z6
  clear hb1 hB1 hB hb0
 iterate 4
  ·
   obtain ⟨g1,g2⟩:=HN.out (by omega)
   rw [g1] at z5
   rw [g2] at z6
   clear g1 g2
   go_wp2
   go_ret
   exact ⟨rfl,hbel⟩
 all_goals
  obtain ⟨g1,g2⟩:=HT.out (by omega)
  have G1:=Lib.hid g1
  have G2:=Lib.hid g2
  clear g1 g2
  go_wp2_with fail
  refine (validKeyI x.target _ G1.out G2.out).mono ?_
  rintro e w2 ⟨rfl,hb2⟩
  go_wp2
  go_ret
  exact ⟨rfl,bel_adv hbel hb2⟩
structure EvsOk (l:List EvT) : Prop where
 len:l.length≤1024
 ok:∀ x ∈ l,EvOk x
 nd:(l.map EvT.key).Nodup
theorem allValidI (A:Option Addr) (c:Nat) (l:List EvT) (w:World) (hS:SliceOf encEv 7 w w.heap.size A l) (hl:EvsOk l) : Calls Tryz.prog 78 #[.slice A l.length c] w fun e w'=>e = .returned (.bool true)∧Below w.heap.size w w':=by
 have HL:=Lib.hid hl.ok
 have hlen:=hl.len
 clear hl
 go_enter Tryz.func78,Tryz.ntmps78
 go_wp2
 go_loopw [7] (fun i wr=>∃ k:Nat,k≤l.length∧i = .int .i64 k∧Below w.heap.size w wr) (fun i _=>l.length - (intOf i).toNat)
 case atStart=>exact ⟨0,by omega,rfl,Below.refl _ _⟩
 case round =>
  obtain ⟨k,hk,rfl,hbr⟩:=hrel
  have hbs:=hbr.size
  by_cases hlt:k < l.length
  ·
   have hx:SliceOf encEv 7 wr w.heap.size A l:=hS.below hbr
   have HX:=Lib.hid (HL.out _ (List.getElem_mem hlt))
   obtain ⟨q,off,rfl,hq,hc⟩:=hx.at_ hlt
   have c0:=hc 0 _ rfl
   have c1:=hc 1 _ rfl
   have c2:=hc 2 _ rfl
   have c3:=hc 3 _ rfl
   have c4:=hc 4 _ rfl
   have c5:=hc 5 _ rfl
   have c6:=hc 6 _ rfl
   simp only [Nat.add_zero] at c0
   have hqw:q < wr.heap.size:=by omega
   have hki:(k:Int) < (l.length:Int):=by omega
   clear hc hx
   go_wp2_with fail
   refine (recValidI l[k] _ HX.out).mono ?_
   rintro e w2 ⟨rfl,hb2⟩
   have hbr2:=bel_adv (bel_alloc hbr _) hb2
   clear hb2
   go_wp2
   go_roundw
   case rel=>exact ⟨k+1,by omega,by go_num,hbr2⟩
   case measure=>simp [intOf]; omega
  ·
   go_wp2
   go_ret
   exact ⟨rfl,hbr⟩
theorem checkI (A:Option Addr) (c:Nat) (l:List EvT) (w:World) (hS:SliceOf encEv 7 w w.heap.size A l) (hl:EvsOk l) : Calls Tryz.prog 38 #[.slice A l.length c] w fun e w'=>e = .returned (.int .i64 0)∧Below w.heap.size w w':=by
 have hlen:=hl.len
 have HL:=Lib.hid hl
 clear hl
 go_enter Tryz.func38,Tryz.ntmps38
 go_wp2_with fail
 refine (allValidI A c l _ hS HL.out).mono ?_
 rintro e w1 ⟨rfl,hb1⟩
 go_wp2
 go_ret
 exact ⟨rfl,hb1⟩
theorem growI (n:Nat) (w:World) (hn:n≤100000) : Calls Tryz.prog 163 #[.slice none 0 0,.int .i64 n] w fun e w'=>∃ v,e = .returned v∧Own encEv 7 41 w' w.heap.size v ([] : List EvT)∧Below w.heap.size w w':=by
 rcases Nat.eq_zero_or_pos n with rfl | hpos
 ·
  have h1:=Any8.slices_Grow_room Tryz.growE none 0 0 0 w (Nat.le_refl _) (by omega) (by omega) (by omega)
  exact h1.mono fun e w' ⟨he,hw⟩=>⟨_,he,Own.nil_ _ _,by rw [hw]; exact Below.refl _ _⟩
 ·
  obtain ⟨i,hi,hz,hsz,hb⟩:=info_parts infoEv
  have h1:=Any8.slices_Grow_grow Tryz.growE i _ hi hz (by omega) none 0 0 n [] w (Nat.le_refl _) (by omega) (by rw [hb]; omega) (by omega) (by simp) (fun _=>rfl) (fun a ha=>by cases ha)
  refine h1.mono fun e w' ⟨he,hw⟩=>⟨_,he,?_,?_⟩
  ·
   rw [hw]
   have hge:=grownCap_ge w (0+n) 0 (Tryz.growE_ren.t 25)
   have hcm:grownCap w (0+n) 0 (Tryz.growE_ren.t 25)≤maxLen:=grownCap_le_maxLen w (0+n) 0 (Tryz.growE_ren.t 25) (by unfold maxLen; omega)
   refine ⟨by simp,.inr ⟨w.heap.size,_,_,rfl,Nat.le_refl _,heap_alloc_new w.drew _,Nat.zero_le _,hcm,?_,by simp⟩⟩
   show _ = grownCap w (0+n) 0 (Tryz.growE_ren.t 25) * 7
   simp only [Array.size_append,List.size_toArray,List.length_nil,size_zeroCells,Value.cells]
   show 0+(0+n - 0) * 7+_ * 7 = _
   have:(0+n - 0) * 7+(grownCap w (0+n) 0 (Tryz.growE_ren.t 25) - (0+n)) * 7 = grownCap w (0+n) 0 (Tryz.growE_ren.t 25) * 7:=by
    rw [← Nat.add_mul]; congr 1; omega
   omega
  ·
   rw [hw]
   exact ⟨rfl,rfl,rfl,(by simp),fun k hk=>heap_alloc_old w.drew _ hk⟩
theorem concatI (A:Option Addr) (c:Nat) (l:List EvT) (g:Nat) (w:World) (hS:SliceOf encEv 7 w w.heap.size A l) (hl:l.length≤1024) (hB:Blk w g 42 #[.slice A l.length c,.slice none 0 0]) :
  Calls Tryz.prog 116 #[.slice (some ⟨g,0,none⟩) 2 2] w fun e w'=>∃ v,e = .returned v∧Own encEv 7 41 w' w.heap.size v l∧Below w.heap.size w w':=by
 have hgl:=hB.lt
 have z0:=hB.cell 0
 have z1:=hB.cell 1
 simp only [nqg,nqh,nqi] at z0 z1
 have HB:=Lib.hid hB
 clear hB
 go_enter Tryz.func116,Tryz.ntmps116
 go_wp2
 refine wp_loop_rounds 3 ?_
 rw [rounds_succ]
 go_wp2
 rw [rounds_succ]
 go_wp2
 rw [rounds_succ]
 go_wp2_with fail
 refine (growI l.length _ (by omega)).mono ?_
 rintro e w1 ⟨v1,rfl,hown,hb1⟩
 have hB1:=HB.out.adv hb1
 have hS1:=hS.adv hb1
 have hs1:=hb1.size
 have y0:=hB1.cell 0
 have y1:=hB1.cell 1
 simp only [nqg,nqh,nqi] at y0 y1
 clear hB1
 have HOWN:=Lib.hid hown
 clear hown z0 z1
 go_wp2
 refine wp_loop_rounds 3 ?_
 rw [rounds_succ]
 go_wp2_with (at_builtin; (refine wpList_append_list (ys:=l) _ _ 42 c 56 _ infoEv Tryz.underlying42 HOWN.out hS1 encEv_len (by omega) rfl encEv_one (by simp; omega) (by omega) (by omega) (by rfl) (by rfl) (by rfl) (by rfl) (by rfl) ?_); intro v2 w2 hown2 hg2; have hB2:=(HB.out.adv hb1).apart HOWN.out hg2 (.inl hgl); have x0:=hB2.cell 0; have x1:=hB2.cell 1; simp only [nqg,nqh,nqi] at x0 x1)
 rw [rounds_succ]
 rw [List.nil_append] at hown2
 have HOWN2:=Lib.hid hown2
 have hb2:=bel_only hb1 hg2 (fun g hg=>(HOWN.out.block_lt hg).1)
 have hs2:=hb2.size
 clear hown2 hg2 hB2
 go_wp2_with (at_builtin; (refine wpList_append_list (ys:=([] : List EvT)) _ _ 42 0 56 _ infoEv Tryz.underlying42 HOWN2.out (SliceOf.nil_ (B:=0)) encEv_len (by omega) rfl encEv_one (by simp; omega) (by omega) (by omega) (by rfl) (by rfl) (by rfl) (by rfl) (by rfl) ?_); intro v3 w3 hown3 hg3)
 rw [rounds_succ]
 rw [List.append_nil] at hown3
 have hb3:=bel_only hb2 hg3 (fun g hg=>(HOWN2.out.block_lt hg).1)
 clear hg3
 go_wp2
 go_ret
 exact ⟨_,rfl,hown3,hb3⟩
end
end Go.Proofs.YtopekilofdadnaaGreatDoor
namespace Go.Proofs.YtopekilofdadnaaGreatDoor
open Go.RowKit
def setL : List Value→Nat→List Value→List Value
 | L,_,[]=>L
 | L,o,v :: r=>setL (L.set o v) (o+1) r
theorem row_sets {base g n cap : Nat} {e:TypeId} {k:Nat} : ∀ (vs:List Value) (o:Nat) {w:World} {L:List Value},w.ownsRow base e k (.slice (some ⟨g,0,none⟩) n cap) n L→(w.setCells g o vs).ownsRow base e k (.slice (some ⟨g,0,none⟩) n cap) n (setL L o vs)
 | [],_,_,_,h=>h
 | v :: r,o,_,_,h=>by
  rw [World.setCells,setL]
  exact row_sets r (o+1) (row_set h o v)
theorem setL_mid : ∀ (vs pre old rest : List Value),old.length = vs.length→setL (pre++old++rest) pre.length vs = pre++vs++rest
 | [],pre,old,rest,h=>by
  obtain rfl:old = []:=List.eq_nil_of_length_eq_zero h
  rfl
 | v :: r,pre,[],rest,h=>by simp at h
 | v :: r,pre,x :: old,rest,h=>by
  rw [setL]
  have e:(pre++x :: old++rest).set pre.length v = (pre++[v])++old++rest:=by simp
  rw [e,show pre.length+1 = (pre++[v]).length by simp,setL_mid r (pre++[v]) old rest (by simpa using h)]
  simp
theorem flat_len {α:Type} {enc:α→List Value} {k:Nat} (hk : ∀ x,(enc x).length = k) (ys:List α) : (ys.flatMap enc).length = ys.length * k:=by
 induction ys with
 | nil=>simp
 | cons a l ih=>rw [List.flatMap_cons,List.length_append,hk,ih,List.length_cons,Nat.succ_mul]; omega
theorem flat_set {α:Type} {enc:α→List Value} {k:Nat} (hk : ∀ x,(enc x).length = k) (ys:List α) (j:Nat) (hj:j < ys.length) (y:α) : (ys.set j y).flatMap enc = setL (ys.flatMap enc) (j * k) (enc y):=by
 have h1:ys = ys.take j++ys[j] :: ys.drop (j+1):=by rw [List.getElem_cons_drop,List.take_append_drop]
 have h2:ys.set j y = ys.take j++y :: ys.drop (j+1):=by rw [List.set_eq_take_append_cons_drop,if_pos hj]
 have h3:(ys.flatMap enc) = (ys.take j).flatMap enc++enc ys[j]++(ys.drop (j+1)).flatMap enc:=by
  conv=>lhs; rw [h1]
  rw [List.flatMap_append,List.flatMap_cons,List.append_assoc]
 rw [h2,h3,List.flatMap_append,List.flatMap_cons,← List.append_assoc]
 have h4:((ys.take j).flatMap enc).length = j * k:=by rw [flat_len hk,List.length_take,Nat.min_eq_left (by omega)]
 rw [← h4,setL_mid _ _ _ _ (by rw [hk,hk])]
theorem Own.put {α:Type} {enc:α→List Value} {e:TypeId} {w:World} {base g cap k n : Nat} {ys:List α} (hk : ∀ x,(enc x).length = k) (hn:n = ys.length) (h:Own enc k e w base (.slice (some ⟨g,0,none⟩) n cap) ys) {j:Nat} (hj:j < ys.length) (y:α) :
  Own enc k e (w.setCells g (j * k) (enc y)) base (.slice (some ⟨g,0,none⟩) n cap) (ys.set j y):=by
 subst hn
 unfold Own
 rw [flat_set hk ys j hj y,List.length_set]
 exact row_sets _ _ h
theorem Own.thereAt {α:Type} {enc:α→List Value} {e:TypeId} {w:World} {base g cap k n : Nat} {ys:List α} (h:Own enc k e w base (.slice (some ⟨g,0,none⟩) n cap) ys) {j:Nat} (hj:j < ys.length) : w.there g (j * k) k:=fun i hi=>by
 rcases h.2 with ⟨hv,_⟩ | ⟨g',cap',cur,hv,_,hg,hn,_,hs,_⟩
 ·
  cases hv
 ·
  injection hv with e1 e2 e3
  injection e1 with e1
  injection e1 with e1 _
  subst e1 e3
  have hm:(j+1) * k≤cap * k:=Nat.mul_le_mul_right k (by omega)
  rw [Nat.succ_mul] at hm
  refine ⟨?_,?_⟩
  ·
   rw [cell_of_row w g (j * k+i) cur e (0,0) hg,Array.getElem?_eq_getElem (by omega)]
   rfl
  ·
   simp [World.frozen?,hg]
theorem Own.rangeAt {α:Type} {enc:α→List Value} {e:TypeId} {w:World} {base g cap k n : Nat} {ys:List α} (hk : ∀ x,(enc x).length = k) (h:Own enc k e w base (.slice (some ⟨g,0,none⟩) n cap) ys) {j:Nat} (hj:j < ys.length) : w.rangeAt g (j * k) (enc ys[j]):=by
 obtain ⟨A,c,hv,hS,_,_⟩:=h.form hk
 injection hv with e1 e2 e3
 subst e1
 obtain ⟨b,off,hA,_,hc⟩:=hS.at_ hj
 injection hA with hA
 injection hA with h1 h2
 subst h1 h2
 intro i v hv
 have:=hc i v hv
 simpa using this
structure EvG (l:List EvT) (s2 s3 : Int) (c1 c2 : Nat) : Prop where
 ok:∀ x ∈ l,EvOk x
 key:∀ x ∈ l,(x.key.term = 2∧x.key.seq < s2) ∨ (x.key.term = 3∧x.key.seq < s3)
 nd:(l.map EvT.key).Nodup
 n1:(l.filter fun e=>decide (e.kind = 1)).length≤c1
 n2:(l.filter fun e=>!(decide (e.kind = 1) || decide (e.kind = 3))).length≤c2
theorem EvG.nil (s2 s3 : Int) : EvG [] s2 s3 0 0:=⟨fun x hx=>(by cases hx),fun x hx=>(by cases hx),by simp,by simp,by simp⟩
theorem EvG.mono {l:List EvT} {s2 s3 s2' s3' : Int} {c1 c2 c1' c2' : Nat} (h:EvG l s2 s3 c1 c2) (h2:s2≤s2') (h3:s3≤s3') (h4:c1≤c1') (h5:c2≤c2') : EvG l s2' s3' c1' c2' :=
 ⟨h.ok,fun x hx=>by have:=h.key x hx; omega,h.nd,Nat.le_trans h.n1 h4,Nat.le_trans h.n2 h5⟩
theorem EvG.push2 {l:List EvT} {s2 s3 : Int} {c1 c2 : Nat} (h:EvG l s2 s3 c1 c2) {q t k : Int} (hq:s2≤q) (hq0:0≤q) (hq1:q≤1000) (ht:0≤t∧t≤120968639) (hk:1≤k∧k≤4) :
  EvG (l++[⟨⟨2,q⟩,1,t,k,⟨0,0⟩⟩]) (q+1) s3 (c1+if k = 1 then 1 else 0) (c2+if k = 1 ∨ k = 3 then 0 else 1):=by
 refine ⟨fun x hx=>?_,fun x hx=>?_,?_,?_,?_⟩
 ·
  rcases List.mem_append.1 hx with hx | hx
  ·
   exact h.ok x hx
  ·
   rw [List.mem_singleton] at hx
   subst hx
   exact ⟨⟨(by show (0:Int)≤2; omega),(by show (2:Int)≤65535; omega)⟩,⟨hq0,by show q≤2147483647; omega⟩,⟨(by show (1:Int)≤1; omega),(by show (1:Int)≤2147483647; omega)⟩,ht,⟨hk.1,by show k≤6; omega⟩,fun _=>rfl,fun h5=>by exfalso; have h5:5≤k:=h5; omega⟩
 ·
  rcases List.mem_append.1 hx with hx | hx
  ·
   have:=h.key x hx; omega
  ·
   rw [List.mem_singleton] at hx
   subst hx
   exact .inl ⟨rfl,by show q < q+1; omega⟩
 ·
  rw [List.map_append,List.nodup_append]
  refine ⟨h.nd,by simp,fun a ha b hb e=>?_⟩
  simp only [List.map_cons,List.map_nil,List.mem_singleton] at hb
  obtain ⟨x,hx,rfl⟩:=List.mem_map.1 ha
  have h1:=h.key x hx
  rw [e,hb] at h1
  simp only at h1
  omega
 ·
  rw [List.filter_append,List.length_append]
  have:=h.n1
  by_cases e:k = 1
  ·
   simp [e]; omega
  ·
   simp [e]; omega
 ·
  rw [List.filter_append,List.length_append]
  have:=h.n2
  by_cases e:k = 1 ∨ k = 3
  ·
   rw [if_pos e]
   have:([(⟨⟨2,q⟩,1,t,k,⟨0,0⟩⟩ : EvT)].filter fun e=>!(decide (e.kind = 1) || decide (e.kind = 3))) = []:=by rcases e with rfl | rfl <;> rfl
   rw [this]
   simp only [List.length_nil]
   omega
  ·
   rw [if_neg e]
   have:([(⟨⟨2,q⟩,1,t,k,⟨0,0⟩⟩ : EvT)].filter fun e=>!(decide (e.kind = 1) || decide (e.kind = 3))).length≤1:=List.length_filter_le _ _
   omega
theorem EvG.push3 {l:List EvT} {s2 s3 : Int} {c1 c2 : Nat} (h:EvG l s2 s3 c1 c2) {q t k : Int} (hq:s3≤q) (hq0:0≤q) (hq1:q≤1000) (ht:0≤t∧t≤120968639) (hk:k = 5 ∨ k = 6) :
  EvG (l++[⟨⟨3,q⟩,1,t,k,⟨2,q⟩⟩]) s2 (q+1) c1 (c2+1):=by
 refine ⟨fun x hx=>?_,fun x hx=>?_,?_,?_,?_⟩
 ·
  rcases List.mem_append.1 hx with hx | hx
  ·
   exact h.ok x hx
  ·
   rw [List.mem_singleton] at hx
   subst hx
   exact ⟨⟨(by show (0:Int)≤3; omega),(by show (3:Int)≤65535; omega)⟩,⟨hq0,by show q≤2147483647; omega⟩,⟨(by show (1:Int)≤1; omega),(by show (1:Int)≤2147483647; omega)⟩,ht,⟨by show 1≤k; omega,by show k≤6; omega⟩,fun h4=>by exfalso; have h4:k≤4:=h4; omega,fun _=>⟨⟨(by show (0:Int)≤2; omega),(by show (2:Int)≤65535; omega)⟩,hq0,by show q≤2147483647; omega⟩⟩
 ·
  rcases List.mem_append.1 hx with hx | hx
  ·
   have:=h.key x hx; omega
  ·
   rw [List.mem_singleton] at hx
   subst hx
   exact .inr ⟨rfl,by show q < q+1; omega⟩
 ·
  rw [List.map_append,List.nodup_append]
  refine ⟨h.nd,by simp,fun a ha b hb e=>?_⟩
  simp only [List.map_cons,List.map_nil,List.mem_singleton] at hb
  obtain ⟨x,hx,rfl⟩:=List.mem_map.1 ha
  have h1:=h.key x hx
  rw [e,hb] at h1
  simp only at h1
  omega
 ·
  rw [List.filter_append,List.length_append]
  have:=h.n1
  have e:¬ k = 1:=by omega
  simp [e]; omega
 ·
  rw [List.filter_append,List.length_append]
  have:=h.n2
  have:([(⟨⟨3,q⟩,1,t,k,⟨2,q⟩⟩ : EvT)].filter fun e=>!(decide (e.kind = 1) || decide (e.kind = 3))).length≤1:=List.length_filter_le _ _
  omega
theorem EvG.perm {l l' : List EvT} {s2 s3 : Int} {c1 c2 : Nat} (h:EvG l s2 s3 c1 c2) (hp:l'.Perm l) : EvG l' s2 s3 c1 c2 :=
 ⟨fun x hx=>h.ok x (hp.mem_iff.1 hx),fun x hx=>h.key x (hp.mem_iff.1 hx),(hp.map EvT.key).nodup_iff.2 h.nd,by rw [(hp.filter _).length_eq]; exact h.n1,by rw [(hp.filter _).length_eq]; exact h.n2⟩
def DaysPost (b:Nat) (w:World) (e:Ending) (w' : World) : Prop :=
 ∃ (v:Value) (l:List EvT),e = .returned v∧Own encEv 7 41 w' w.heap.size v l∧EvG l 1000 1000 4 12∧l.length≤20∧TapeIn w' b∧w.grownBy w' (some b)
end Go.Proofs.YtopekilofdadnaaGreatDoor
