/- Joined texts: StabP P29P P29. Conditions: as stated. -/
import Derived.Sort.LotA
import Derived.Test.YtlhkojcmcmkmaaaGreatJNetP
namespace Go.Proofs.YtlhkojcmcmkmaaaGreat
open Go.Sort
section
variable {α:Type} [Inhabited α]
theorem insInner_eq {lt lt' : α→α→Bool} (a:Nat) : ∀ (j:Nat) (d:Array α),j < d.size→(∀ i,i < j→lt d[j]! d[i]! = lt' d[j]! d[i]!)→insInner lt a j d = insInner lt' a j d
 | 0,d,_,_=>by unfold insInner; rfl
 | j+1,d,hj,h=>by
  unfold insInner
  rw [← h j (by omega)]
  split
  ·
   refine insInner_eq a j _ (by rw [swp_size]; omega) fun i hi=>?_
   have g:=swp_get d hj (show j < d.size by omega)
   rw [g,g]
   simp only [show ¬ i = j by omega,show ¬ i = j+1 by omega,if_true,if_false]
   exact h i (by omega)
  ·
   rfl
theorem insInner_keep {lt:α→α→Bool} (a:Nat) (p:α→Prop) : ∀ (j:Nat) (d:Array α),j < d.size→(∀ k,k≤j→p d[k]!)→(insInner lt a j d).size = d.size∧(∀ k,k≤j→p (insInner lt a j d)[k]!)∧∀ k,j < k→(insInner lt a j d)[k]! = d[k]!
 | 0,d,_,h=>by unfold insInner; exact ⟨rfl,h,fun _ _=>rfl⟩
 | j+1,d,hj,h=>by
  unfold insInner
  split
  ·
   have g:=swp_get d hj (show j < d.size by omega)
   obtain ⟨h1,h2,h3⟩:=insInner_keep (lt:=lt) a p j (swp d (j+1) j) (by rw [swp_size]; omega) (fun k hk=>by
    rw [g]
    simp only [show ¬ k = j+1 by omega,if_false]
    split
    ·
     exact h _ (Nat.le_refl _)
    ·
     exact h _ (by omega))
   refine ⟨by rw [h1,swp_size],fun k hk=>?_,fun k hk=>?_⟩
   ·
    by_cases e:k = j+1
    ·
     subst e
     rw [h3 _ (by omega),g]
     simp only [show ¬ j+1 = j by omega,if_false,if_true]
     exact h j (by omega)
    ·
     exact h2 k (by omega)
   ·
    rw [h3 k (by omega),g]
    simp only [show ¬ k = j+1 by omega,show ¬ k = j by omega,if_false]
  ·
   exact ⟨rfl,h,fun _ _=>rfl⟩
def ltS (lt:α→α→Bool) (idx:α→Nat) (x y : α) : Bool:=lt x y || (!lt y x && decide (idx x < idx y))
theorem insOuter_eq {lt:α→α→Bool} {idx:α→Nat} (a b : Nat) : ∀ (m i : Nat) (d:Array α),b - i = m→b≤d.size→(∀ p q,p < q→i≤q→q < b→idx d[p]! < idx d[q]!)→insOuter lt a b i d = insOuter (ltS lt idx) a b i d:=by
 intro m
 induction m with
 | zero =>
  intro i d hm hb h
  rw [insOuter,if_neg (by omega)]
  rw [insOuter,if_neg (by omega)]
 | succ m ih =>
  intro i d hm hb h
  have hi:i < b:=by omega
  rw [insOuter,if_pos hi]
  conv=>rhs; rw [insOuter,if_pos hi]
  have e:=insInner_eq (lt:=lt) (lt':=ltS lt idx) a i d (by omega) (fun p hp=>by
   have:=h p i hp (Nat.le_refl _) hi
   unfold ltS
   rw [show decide (idx d[i]! < idx d[p]!) = false from decide_eq_false (by omega),Bool.and_false,Bool.or_false])
  rw [e]
  obtain ⟨h1,_,h3⟩:=insInner_keep (lt:=ltS lt idx) a (fun _=>True) i d (by omega) (fun _ _=>trivial)
  refine ih (i+1) _ (by omega) (by omega) fun p q hpq hq hqb=>?_
  rw [h3 q (by omega)]
  by_cases hp:p≤i
  ·
   obtain ⟨_,h2,_⟩:=insInner_keep (lt:=ltS lt idx) a (fun x=>idx x < idx d[q]!) i d (by omega) (fun k hk=>h k q (by omega) (by omega) hqb)
   exact h2 p hp
  ·
   rw [h3 p (by omega)]
   exact h p q hpq (by omega) hqb
omit [Inhabited α] in
theorem swo_ltS {lt:α→α→Bool} {idx:α→Nat} (h:SWO lt) : SWO (ltS lt idx):=by
 have hasym:∀ x y,lt x y = true→lt y x = false:=fun x y h1=>by
  cases e:lt y x with
  | false=>rfl
  | true=>have:=h.trans x y x h1 e; rw [h.irrefl] at this; cases this
 have T:∀ x y,ltS lt idx x y = true ↔ lt x y = true ∨ (lt y x = false∧idx x < idx y):=fun x y=>by simp [ltS]
 have F:∀ x y,ltS lt idx x y = false ↔ lt x y = false∧(lt y x = true ∨ idx y≤idx x):=fun x y=>by
  simp [ltS]
  intro _
  cases lt y x <;> simp
 refine ⟨fun x=>(F x x).2 ⟨h.irrefl x,.inr (Nat.le_refl _)⟩,fun x y z h1 h2=>?_,fun x y z h1 h2=>?_⟩
 ·
  rw [T] at *
  rcases h1 with h1 | ⟨h1,i1⟩ <;> rcases h2 with h2 | ⟨h2,i2⟩
  ·
   exact .inl (h.trans _ _ _ h1 h2)
  ·
   left
   cases e:lt x z with
   | true=>rfl
   | false=>have:=h.ntrans _ _ _ e h2; rw [h1] at this; cases this
  ·
   left
   cases e:lt x z with
   | true=>rfl
   | false=>have:=h.ntrans _ _ _ h1 e; rw [h2] at this; cases this
  ·
   exact .inr ⟨h.ntrans _ _ _ h2 h1,by omega⟩
 ·
  rw [F] at *
  obtain ⟨a1,b1⟩:=h1
  obtain ⟨a2,b2⟩:=h2
  refine ⟨h.ntrans _ _ _ a1 a2,?_⟩
  rcases b1 with b1 | b1
  ·
   left
   cases e:lt z x with
   | true=>rfl
   | false=>have:=h.ntrans _ _ _ a2 e; rw [b1] at this; cases this
  ·
   rcases b2 with b2 | b2
   ·
    left
    cases e:lt z x with
    | true=>rfl
    | false=>have:=h.ntrans _ _ _ e a1; rw [b2] at this; cases this
   ·
    exact .inr (by omega)
theorem stable_holds {lt:α→α→Bool} {idx:α→Nat} (h:SWO lt) (hinj : ∀ x y,idx x = idx y→x = y) (xs:List α) (hx:xs.Pairwise (fun a b=>idx a < idx b)) :
  ∃ ys:List α,(insertionSort lt xs.toArray 0 xs.length).toList = ys∧ys.Perm xs∧ys.Pairwise (fun a b=>ltS lt idx a b = true):=by
 have e:insertionSort lt xs.toArray 0 xs.length = insertionSort (ltS lt idx) xs.toArray 0 xs.length:=by
  unfold insertionSort
  refine insOuter_eq 0 _ _ 1 xs.toArray rfl (by simp) fun p q hpq _ hq=>?_
  rw [List.pairwise_iff_getElem] at hx
  have:=hx p q (by omega) hq hpq
  rw [getElem!_pos _ p (by simp; omega),getElem!_pos _ q (by simpa using hq)]
  simpa using this
 obtain ⟨⟨h1,_,h3⟩,h4⟩:=insertionSort_holds (lt:=ltS lt idx) (swo_ltS h) xs.toArray 0 xs.length (Nat.zero_le _) (by simp)
 rw [e]
 have hp:(insertionSort (ltS lt idx) xs.toArray 0 xs.length).toList.Perm xs:=by
  have e2:(insertionSort (ltS lt idx) xs.toArray 0 xs.length).extract 0 xs.length = insertionSort (ltS lt idx) xs.toArray 0 xs.length:=by
   refine Array.extract_eq_self_of_le ?_
   rw [h1]
   simp
  rw [e2] at h3
  simpa using h3
 refine ⟨_,rfl,hp,?_⟩
 have hnd:xs.Nodup:=hx.imp fun hab e=>by subst e; omega
 have hnd2:=hp.nodup_iff.2 hnd
 rw [List.pairwise_iff_getElem]
 intro i j hi hj hij
 have h5:=h4 i j (Nat.zero_le _) hij (by have:=hp.length_eq; omega)
 have hi':i < (insertionSort (ltS lt idx) xs.toArray 0 xs.length).size:=by simpa using hi
 have hj':j < (insertionSort (ltS lt idx) xs.toArray 0 xs.length).size:=by simpa using hj
 rw [getElem!_pos _ i hi',getElem!_pos _ j hj'] at h5
 simp only [Array.getElem_toList]
 generalize hX:(insertionSort (ltS lt idx) xs.toArray 0 xs.length)[i] = x at *
 generalize hY:(insertionSort (ltS lt idx) xs.toArray 0 xs.length)[j] = y at *
 have hne:x ≠ y:=by
  intro e
  have:=List.pairwise_iff_getElem.1 hnd2 i j hi hj hij
  apply this
  simp only [Array.getElem_toList,hX,hY,e]
 have hidx:idx x ≠ idx y:=fun e=>hne (hinj _ _ e)
 unfold ltS at h5 ⊢
 simp only [Bool.or_eq_false_iff,Bool.and_eq_false_iff,Bool.not_eq_eq_eq_not,Bool.not_false,decide_eq_false_iff_not,Nat.not_lt] at h5
 obtain ⟨h6,h7⟩:=h5
 rcases h7 with h7 | h7
 ·
  rw [h7]; rfl
 ·
  rw [h6]
  simp
  exact .inr (by omega)
end
end Go.Proofs.YtlhkojcmcmkmaaaGreat
namespace Go.Proofs.YtlhkojcmcmkmaaaGreat
open Go.RowKit
def scP (t:List BrT) (num den : Int) : Nat→List BrT
 | 0=>[]
 | k+1=>scTo t num den k++[⟨scF t num den k,(t.getD k zBr).rate⟩]
theorem scP_same {t:List BrT} {num den : Int} {k:Nat} (hk:k+1 < t.length) (h:scF t num den (k+1) = scF t num den k) : scP t num den (k+2) = (scP t num den (k+1)).set ((scP t num den (k+1)).length - 1) ⟨scF t num den (k+1),(t.getD (k+1) zBr).rate⟩:=by
 rw [scP,scTo,if_pos (by simp [scSkip,hk,h]),scP]
 simp
theorem scP_more {t:List BrT} {num den : Int} {k:Nat} (h:scF t num den (k+1) ≠ scF t num den k) : scP t num den (k+2) = scP t num den (k+1)++[⟨scF t num den (k+1),(t.getD (k+1) zBr).rate⟩]:=by
 rw [scP,scTo,if_neg (by simp [scSkip,h]),scP]
theorem scP_all {t:List BrT} {num den : Int} (h:0 < t.length) : scP t num den t.length = scaleN t num den:=by
 obtain ⟨m,hm⟩ : ∃ m,t.length = m+1:=⟨t.length - 1,by omega⟩
 unfold scaleN
 rw [hm,scP,scTo,if_neg (by simp [scSkip,hm])]
theorem scP_last (t:List BrT) (num den : Int) (k:Nat) : 0 < (scP t num den (k+1)).length∧(scP t num den (k+1))[(scP t num den (k+1)).length - 1]? = some ⟨scF t num den k,(t.getD k zBr).rate⟩:=by
 rw [scP]
 simp
theorem scP_len {t:List BrT} {num den : Int} : ∀ k,(scP t num den k).length≤k
 | 0=>Nat.le_refl _
 | k+1=>by
  have key:∀ j,(scTo t num den j).length≤j:=by
   intro j
   induction j with
   | zero=>exact Nat.le_refl _
   | succ j ih =>
    rw [scTo]
    split
    ·
     omega
    ·
     simp; omega
  have:=key k
  rw [scP]; simp; omega
def abvB (multiple rest step mode : Int) : Bool :=
 if rest = 0 then false else if mode = 1 ∨ mode = 3 then true else if mode = 4 then decide (step≤2 * rest) else if mode = 5 then decide (step < 2 * rest) else if mode = 6 then decide (step < 2 * rest) || (decide (2 * rest = step) && decide (multiple % 2 = 1)) else false
theorem rnd_abv {n d mode : Int} (h0:0≤n) (hd:0 < d) (m0:0≤mode) (m1:mode≤6) : rnd n d mode = n / d+if abvB (n / d) (n % d) d mode = true then 1 else 0:=by
 have r0:=Int.emod_nonneg n (show d ≠ 0 by omega)
 have r1:=Int.emod_lt_of_pos n hd
 have q0:0≤n / d:=Int.ediv_nonneg h0 (by omega)
 have ht:(n / d).tmod 2 = n / d % 2:=Int.tmod_eq_emod_of_nonneg q0
 have hp:n % d ≠ 0→0 < n:=fun h=>by
  rcases Int.lt_or_eq_of_le h0 with h1 | h1
  ·
   exact h1
  ·
   subst h1; simp at h
 unfold rnd abvB upB cmpI
 rw [ht]
 generalize n % d = r at *
 generalize n / d = q at *
 have hmodes:mode = 0 ∨ mode = 1 ∨ mode = 2 ∨ mode = 3 ∨ mode = 4 ∨ mode = 5 ∨ mode = 6:=by omega
 by_cases hr:r = 0
 ·
  simp [hr]
 have hpn:=hp hr
 have hb2:q % 2 = 0 ∨ q % 2 = 1:=by omega
 rcases hmodes with rfl | rfl | rfl | rfl | rfl | rfl | rfl <;> simp [hr,hpn]
 ·
  split <;> split <;> simp_all <;> omega
 ·
  split <;> split <;> simp_all <;> omega
 ·
  rcases hb2 with e | e <;> simp [e] <;> (repeat' split) <;> simp_all <;> omega
end Go.Proofs.YtlhkojcmcmkmaaaGreat
namespace Go.Proofs.YtlhkojcmcmkmaaaGreat
open Go.RowKit
set_option maxRecDepth 100000 in
set_option maxHeartbeats 2000000 in
theorem validP29 (A:Option Addr) (cap:Nat) (t:List BrT) (w:World) (h:SliceOf encBr 2 w w.heap.size A t) (hB:BrOk t) :
  Calls Tryz.prog 193 #[.slice A t.length cap] w fun e w'=>e = .returned (.bool true)∧Below w.heap.size w w':=by
 have HB:=Lib.hid hB
 have hne:=hB.ne
 have hl:=hB.len
 have hz:=hB.zero
 rw [brD hne] at hz
 obtain ⟨b,off,rfl,hb,hc⟩:=h.at_ hne
 have d0:=hc 0 _ rfl
 simp only [Nat.add_zero,Nat.zero_mul] at d0
 rw [hz] at d0
 have hi0:(0:Int) < (t.length:Int):=by omega
 clear hz hc hB
 go_enter Tryz.func193,Tryz.ntmps193
 go_wp2
 go_loopw [22] (fun i wr=>∃ k:Nat,k≤t.length∧i = .int .i64 k∧Below w.heap.size w wr) (fun i _=>t.length - (intOf i).toNat)
 case atStart=>exact ⟨0,by omega,rfl,Below.refl _ _⟩
 case round =>
  obtain ⟨k,hk,rfl,hbel⟩:=hrel
  have hbs:=hbel.size
  by_cases hlt:k < t.length
  ·
   have hx:SliceOf encBr 2 wr w.heap.size (some ⟨b,off,none⟩) t:=h.below hbel
   have h1:=HB.out.hi k hlt
   have h2:=HB.out.r0 k hlt
   have h3:=HB.out.r1 k hlt
   rw [brD hlt] at h1 h2 h3
   obtain ⟨b1,off1,hA1,hb1,hc1⟩:=hx.at_ hlt
   injection hA1 with hA1
   injection hA1 with hA1 hA2
   subst hA1 hA2
   have c0:=hc1 0 _ rfl
   have c1:=hc1 1 _ rfl
   simp only [Nat.add_zero] at c0
   have hki:(k:Int) < (t.length:Int):=by omega
   have g1:decide (1000000000000 < t[k].frm) = false:=by simp; omega
   have g2:decide (t[k].rate < 0) = false:=by simp; omega
   have g3:decide (1000000 < t[k].rate) = false:=by simp; omega
   have hbw:b < wr.heap.size:=by omega
   clear hc1
   rcases k with _ | m
   ·
    have hk0:(0:Int) < (t.length:Int):=by omega
    simp only [Nat.zero_mul,Nat.add_zero] at c0 c1
    go_wp2
    go_quiet (fail)
    go_wp2
    go_roundw
    case rel=>exact ⟨1,by omega,by go_num,below_drewN (hbel.alloc hbs _) _⟩
    case measure=>simp [intOf]; omega
   ·
    have hlm:m < t.length:=by omega
    have ha:=HB.out.asc m hlt
    rw [brD hlm,brD hlt] at ha
    obtain ⟨b2,off2,hA3,hb2,hc2⟩:=hx.at_ hlm
    injection hA3 with hA3
    injection hA3 with hA3 hA4
    subst hA3 hA4
    have e0:=hc2 0 _ rfl
    simp only [Nat.add_zero] at e0
    clear hc2
    have g0:decide (t[m+1].frm≤t[m].frm) = false:=by simp; omega
    have hmi:(m:Int) < (t.length:Int):=by omega
    have hmi2:(m:Int)+1 < (t.length:Int):=by omega
    have hp:decide ((0:Int) < (m:Int)+1) = true:=by rw [decide_eq_true_eq]; omega
    go_wp2
    go_quiet (fail)
    go_wp2
    go_roundw
    case rel=>exact ⟨m+2,by omega,by go_num,below_drewN (hbel.alloc hbs _) _⟩
    case measure=>simp [intOf]; omega
  ·
   go_wp2
   go_ret
   exact ⟨rfl,hbel⟩
set_option maxHeartbeats 1000000 in
theorem checkP29 (A:Option Addr) (cap:Nat) (t:List BrT) (inc:Int) (w:World) (h:SliceOf encBr 2 w w.heap.size A t) (hB:BrOk t) (h0:0≤inc) (h1:inc≤1000000000000) :
  Calls Tryz.prog 272 #[.slice A t.length cap,.int .i64 inc] w fun e w'=>e = .returned (.int .i64 0)∧Below w.heap.size w w':=by
 go_enter Tryz.func272,Tryz.ntmps272
 go_wp2_with fail
 refine (validP29 A cap t w h hB).mono ?_
 rintro e w1 ⟨rfl,hb1⟩
 go_wp2
 go_ret
 exact ⟨rfl,hb1⟩
set_option maxRecDepth 100000 in
set_option maxHeartbeats 2000000 in
theorem splitP29 (A:Option Addr) (cap:Nat) (t:List BrT) (inc:Int) (w:World) (h:SliceOf encBr 2 w w.heap.size A t) (hB:BrOk t) (h0:0≤inc) (h1:inc≤1000000000000) :
  Calls Tryz.prog 267 #[.slice A t.length cap,.int .i64 inc] w fun e w'=>∃ g,e = .returned (.tuple #[.slice (some ⟨g,0,none⟩) t.length t.length,.int .i64 0])∧w.heap.size≤g∧RowI w' g (splitN t inc)∧Below w.heap.size w w':=by
 have hl:=hB.len
 have HB:=Lib.hid hB
 have hmk:=make_ints t.length (by omega)
 have HC:=Lib.hid (checkP29 A cap t inc w h hB h0 h1)
 clear hB
 go_enter Tryz.func267,Tryz.ntmps267
 go_wp2_with fail
 refine Calls.mono HC.out ?_
 rintro e w1 ⟨rfl,hbel1⟩
 have hS1:SliceOf encBr 2 w1 w1.heap.size A t:=h.adv hbel1
 obtain ⟨b,off,rfl,hb,hcx⟩:=hS1.at_ HB.out.ne
 clear HC h hcx
 go_upto_region 5 with fail
 have hR:=RowI.made w1 t.length
 have hbM:=below_new w1 (.cells (madeCells #[.int .i64 0] t.length) 3)
 have hS2:=hS1.adv hbM
 have hbel2:=bel_adv hbel1 hbM
 have hrow:(w1.alloc (.cells (madeCells #[.int .i64 0] t.length) 3)).rowIs w1.heap.size 3 t.length (splitTo t inc 0):=by
  have h2:=hR
  unfold RowI at h2
  rw [List.length_replicate] at h2
  refine h2.congr fun i hi=>?_
  simp [splitTo,List.getD_eq_getElem?_getD,List.getElem?_replicate]
  split <;> rfl
 generalize w1.alloc (.cells (madeCells #[.int .i64 0] t.length) 3) = W at hR hbM hS2 hbel2 hrow ⊢
 have hgl:=hR.lt
 have hws:=hbel1.size
 clear hR hbM hS1
 go_wp2
 go_loopw [22] (fun i wr=>∃ k:Nat,k≤t.length∧i = .int .i64 k∧wr.rowIs w1.heap.size 3 t.length (splitTo t inc k)∧W.grownBy wr (some w1.heap.size)) (fun i _=>t.length - (intOf i).toNat)
 case atStart=>exact ⟨0,by omega,rfl,hrow,only_refl _ _⟩
 case round =>
  clear hrow
  obtain ⟨k,hk,rfl,hrow,hg⟩:=hrel
  have hSk:=hS2.advG hg (fun a ha=>by injection ha with ha; subst ha; simp only; omega)
  have hbw:Below w.heap.size w wr:=bel_only hbel2 hg (fun g e=>by injection e; omega)
  have hgs:=hg.size
  by_cases hlt:k < t.length
  ·
   have h4:=HB.out.nonneg hlt
   have h5:=HB.out.hi k hlt
   rw [brD hlt] at h4 h5
   obtain ⟨b1,off1,hA1,hb1,hc1⟩:=hSk.at_ hlt
   injection hA1 with hA1
   injection hA1 with hA1 hA2
   subst hA1 hA2
   have c0:=hc1 0 _ rfl
   have c1:=hc1 1 _ rfl
   simp only [Nat.add_zero] at c0
   have hki:(k:Int) < (t.length:Int):=by omega
   have f0:=hrow.frozen k
   have z0:=hrow.cell (i:=k) hlt
   have hne:b ≠ w1.heap.size:=by omega
   have hlw:w1.heap.size < wr.heap.size:=by omega
   have HROW:=Lib.hid hrow
   have HG:=Lib.hid hg
   generalize splitTo t inc k k = zz at z0
   clear hc1 hrow hg
   have hfin:∀ (v:Int),v = splitAt' t inc k→∃ k':Nat,k'≤t.length∧Value.int .i64 ((k:Int)+1) = .int .i64 k'∧((wr.setCell ⟨w1.heap.size,k,none⟩ (.int .i64 v)).alloc (.cells #[.int .i64 t[k].frm,.int .i64 t[k].rate] 127)).rowIs w1.heap.size 3 t.length (splitTo t inc k')∧W.grownBy ((wr.setCell ⟨w1.heap.size,k,none⟩ (.int .i64 v)).alloc (.cells #[.int .i64 t[k].frm,.int .i64 t[k].rate] 127)) (some w1.heap.size):=fun v hv=>⟨k+1,by omega,by go_num,(splitTo_next HROW.out hv).alloc _,only_alloc (only_setCell HG.out (.inl rfl) _) _⟩
   have HFIN:=Lib.hid hfin
   clear hfin
   by_cases hlt2:k+1 < t.length
   ·
    have HSP:=Lib.hid (split_in (inc:=inc) hlt2)
    have h6:=HB.out.nonneg hlt2
    have h7:=HB.out.hi (k+1) hlt2
    rw [brD hlt2] at h6 h7
    obtain ⟨b1,off1,hA1,hb2,hc1⟩:=hSk.at_ hlt2
    injection hA1 with hA1
    injection hA1 with hA1 hA2
    subst hA1 hA2
    have c2:=hc1 0 _ rfl
    simp only [Nat.add_zero] at c2
    have hki2:(k:Int)+1 < (t.length:Int):=by omega
    clear hc1
    go_wp2
    all_goals
     go_roundw
     case rel=>first | exact HFIN.out _ (by rw [HSP.out]; (repeat' split) <;> omega) | ((repeat apply Exists.intro); exact ⟨HFIN.out _ (by rw [HSP.out]; (repeat' split) <;> omega),rfl⟩)
     case measure=>simp [intOf]; omega
   ·
    have HSP:=Lib.hid (split_last (inc:=inc) hlt hlt2)
    have hki2:¬ (k:Int)+1 < (t.length:Int):=by omega
    go_wp2
    all_goals
     go_roundw
     case rel=>first | exact HFIN.out _ (by rw [HSP.out]; (repeat' split) <;> omega) | ((repeat apply Exists.intro); exact ⟨HFIN.out _ (by rw [HSP.out]; (repeat' split) <;> omega),rfl⟩)
     case measure=>simp [intOf]; omega
  ·
   obtain rfl:k = t.length:=by omega
   have hRN:=splitTo_all hrow
   have HRN:=Lib.hid hRN
   clear hrow hRN
   go_wp2
   go_ret2
   exact ⟨w1.heap.size,rfl,hws,HRN.out,hbw⟩
set_option maxRecDepth 100000 in
set_option maxHeartbeats 2000000 in
theorem exactP29 (A:Option Addr) (cap:Nat) (t:List BrT) (inc:Int) (w:World) (h:SliceOf encBr 2 w w.heap.size A t) (hB:BrOk t) (h0:0≤inc) (h1:inc≤1000000000000) :
  Calls Tryz.prog 255 #[.slice A t.length cap,.int .i64 inc] w fun e w'=>e = .returned (.tuple #[.int .i64 (exactN t inc),.int .i64 0])∧Below w.heap.size w w':=by
 have HB:=Lib.hid hB
 have hl:=hB.len
 have HC:=Lib.hid (splitP29 A cap t inc w h hB h0 h1)
 clear hB
 go_enter Tryz.func255,Tryz.ntmps255
 go_wp2_with fail
 refine Calls.mono HC.out ?_
 rintro e w1 ⟨g,rfl,hg,hR,hb1⟩
 have hS1:=h.adv hb1
 clear HC h
 go_wp2
 go_loop [8,22] (fun n i=>∃ k:Nat,k≤t.length∧i = .int .i64 k∧n = .int .i64 (exTo t inc k)) (fun _ i=>t.length - (intOf i).toNat)
 case atStart=>exact ⟨0,by omega,rfl,rfl⟩
 case round =>
  obtain ⟨k,hk,rfl,rfl⟩:=hrel
  obtain ⟨x0,x1⟩:=exTo_bd (inc:=inc) HB.out h0 hk
  have x2:exTo t inc k≤1000000000000000000:=by omega
  by_cases hlt:k < t.length
  ·
   obtain ⟨b1,off1,rfl,hb2,hc1⟩:=hS1.at_ hlt
   have c1:=hc1 1 _ rfl
   have z0:=hR.cell (i:=k) (by rw [splitN_len]; exact hlt)
   rw [splitN_at t inc hlt] at z0
   have HT:=Lib.hid (exTo_succ t inc k)
   rw [brD hlt] at HT
   obtain ⟨y0,y1⟩:=exTo_bd (inc:=inc) HB.out h0 (show k+1≤t.length by omega)
   rw [HT.out] at y0 y1
   have s0:=split_bd (t:=t) (inc:=inc) k
   have s1:=split_le HB.out h0 hlt
   have r0:=HB.out.r0 k hlt
   have r1:=HB.out.r1 k hlt
   rw [brD hlt] at r0 r1
   have m0:0≤t[k].rate * splitAt' t inc k:=Int.mul_nonneg r0 s0
   rw [Int.mul_comm] at HT y0 y1
   have m1:t[k].rate * splitAt' t inc k≤1000000000000000000:=by omega
   have m2:exTo t inc k+t[k].rate * splitAt' t inc k≤1000000000000000000:=by omega
   clear hc1 x1 y1
   generalize splitAt' t inc k = sp at *
   generalize hex:exTo t inc k = ex at *
   clear hex
   go_wp2
   go_round
   case rel=>exact ⟨k+1,by omega,by go_num,by rw [HT.out]⟩
   case measure=>simp [intOf]; omega
  ·
   obtain rfl:k = t.length:=by omega
   have HE:Hid (exactN t inc = exTo t inc t.length):=rfl
   go_wp2
   go_ret2
   exact ⟨by rw [HE.out]; rfl,hb1⟩
end Go.Proofs.YtlhkojcmcmkmaaaGreat
