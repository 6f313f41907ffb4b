/- Joined texts: P31b ShelfL SortN. Conditions: as stated. -/
import Derived.StillTailTactics
import Derived.Shelf.SlGeneric
import Derived.Shelf.SlSortCmp.WholeK
import Derived.Shelf.SlSortCmp.NoneTotal
import Derived.Ground.SlsfProg
import Derived.Test.YtlhkojcmcmkmaaaGreatProg
import Derived.Test.YtlhkojcmcmkmaaaGreatJRec
import Derived.Test.YtlhkojcmcmkmaaaGreatJBox
import Derived.Test.YtlhkojcmcmkmaaaGreatJP31
import Derived.Test.YtlhkojcmcmkmaaaGreatJP29b
import Derived.Test.YtlhkojcmcmkmaaaGreatJStab
namespace Go.Proofs.YtlhkojcmcmkmaaaGreat
open Go.RowKit Go.Sort Go.Shelf
theorem encI_one (x:Int) : ∀ u ∈ encI x,u.oneCell' = true:=by intro u hu; simp [encI] at hu; subst hu; rfl
set_option maxRecDepth 100000 in
set_option maxHeartbeats 1000000 in
theorem cloneI_any (A:Option Addr) (cap:Nat) (xs:List Int) (w:World) (h:SliceOf encI 1 w w.heap.size A xs) (hl:xs.length≤1000000) :
  Calls Tryz.prog 112 #[.slice A xs.length cap] w fun e w'=>∃ v,e = .returned v∧Own encI 1 3 w' w.heap.size v xs∧Below w.heap.size w w':=by
 rcases A with _ | a
 ·
  have hx:xs = []:=by
   rcases xs with _ | ⟨y,ys⟩
   ·
    rfl
   ·
    obtain ⟨b,off,hA,_⟩:=h (by simp)
    cases hA
  subst hx
  have he:∀ w:World,(binOp .eql 34 (.slice none 0 cap) (.slice none 0 0)).run Tryz.prog w = .ok (.bool true) w:=fun _=>rfl
  go_enter Tryz.func112,Tryz.ntmps112
  go_wp2
  go_ret
  exact ⟨_,rfl,Own.nil_ _ _,Below.refl _ _⟩
 ·
  have hlit:=Own.lit encI_len w ([] : List Int) #[] 3 rfl (by simp) (Nat.le_refl _)
  have hS:=h.advA (.cells #[] 3)
  have he:∀ w:World,(binOp .eql 34 (.slice (some a) xs.length cap) (.slice none 0 0)).run Tryz.prog w = .ok (.bool false) w:=fun _=>rfl
  go_enter Tryz.func112,Tryz.ntmps112
  go_wp2_with (at_builtin; (refine wpList_append_list (ys:=xs) _ _ 34 _ 8 _ infoInt Tryz.underlying34 hlit hS encI_len (by omega) rfl encI_one (by simp; omega) (by omega) (by simp) (by rfl) (by rfl) (by rfl) (by rfl) (by rfl) ?_); intro v2 w6 hown6 hg6)
  go_ret
  exact ⟨v2,rfl,by simpa using hown6,fresh_below hg6⟩
def cfK (l:List OrdT) {m:Nat} (a b : Fin (m+1)) : Int:=orI (cmpI (keyAt l a.val).1 (keyAt l b.val).1) (cmpI (keyAt l a.val).2 (keyAt l b.val).2)
theorem ltOf_cfK (l:List OrdT) {m:Nat} (a b : Fin (m+1)) : ltOf (cfK l) a b = decide (keyLt (keyAt l a.val) (keyAt l b.val)):=by
 rw [ltOf,decide_eq_decide]
 unfold cfK orI cmpI keyLt
 generalize (keyAt l a.val).1 = x
 generalize (keyAt l b.val).1 = y
 generalize (keyAt l a.val).2 = u
 generalize (keyAt l b.val).2 = v
 (repeat' split) <;> omega
theorem swo_cfK (l:List OrdT) {m:Nat} : SWO (ltOf (cfK (m:=m) l)) where
 irrefl x:=by rw [ltOf_cfK,decide_eq_false_iff_not]; exact keyLt_irr _
 trans x y z h1 h2:=by rw [ltOf_cfK,decide_eq_true_eq] at *; exact keyLt_trans h1 h2
 ntrans x y z h1 h2:=by rw [ltOf_cfK,decide_eq_false_iff_not] at *; unfold keyLt at *; omega
theorem ord_of (l:List OrdT) {m:Nat} {ys:List (Fin (m+1))} (h:ys.Pairwise (fun a b=>ltS (ltOf (cfK l)) (·.val) a b = true)) : (ys.map (·.val)).Pairwise (OrdLt l):=by
 rw [List.pairwise_map]
 refine h.imp fun {a b} hab=>?_
 unfold ltS at hab
 rw [ltOf_cfK,ltOf_cfK] at hab
 simp only [Bool.or_eq_true,Bool.and_eq_true,Bool.not_eq_true',decide_eq_true_eq,decide_eq_false_iff_not] at hab
 by_cases h1:keyLt (keyAt l a.val) (keyAt l b.val)
 ·
  exact .inl h1
 ·
  rcases hab with hab | hab
  ·
   exact absurd hab h1
  ·
   exact .inr ⟨keyLt_tri _ _ h1 hab.1,hab.2⟩
theorem ord_at {l:List OrdT} {w:World} {B:Nat} {A:Option Addr} (h:SliceOf encOd 5 w B A l) {i:Nat} (hi:i < l.length) : ∃ b off,A = some ⟨b,off,none⟩∧b < B∧w.cell? ⟨b,off+i * 5+1,none⟩ = some (.int .i64 (keyAt l i).1)∧w.cell? ⟨b,off+i * 5+2,none⟩ = some (.int .i64 (keyAt l i).2):=by
 obtain ⟨b,off,hA,hb,hc⟩:=h.at_ hi
 have e:l.getD i zOd = l[i]:=by rw [List.getD_eq_getElem?_getD,List.getElem?_eq_getElem hi]; rfl
 refine ⟨b,off,hA,hb,?_,?_⟩
 ·
  rw [keyAt,e]; exact hc 1 _ rfl
 ·
  rw [keyAt,e]; exact hc 2 _ rfl
set_option maxRecDepth 100000 in
set_option maxHeartbeats 2000000 in
theorem serveClo (gl n cap : Nat) (A:Option Addr) (l:List OrdT) (i j : Nat) (w:World) (hi:i < n) (hj:j < n) (hn:l.length = n) (hh:HdC gl (.slice A n cap) w) {B:Nat} (hL:SliceOf encOd 5 w B A l) :
  Calls Tryz.prog 208 #[.int .i64 (i:Int),.int .i64 (j:Int),.pointer (some ⟨gl,0,none⟩)] w fun e w'=>e = .returned (.int .i64 (orI (cmpI (keyAt l i).1 (keyAt l j).1) (cmpI (keyAt l i).2 (keyAt l j).2)))∧∃ q os',w' = grow (w.drewN q) os':=by
 obtain ⟨b,off,hA,_,c1,c2⟩:=ord_at hL (i:=i) (by omega)
 obtain ⟨b',off',hA',_,d1,d2⟩:=ord_at hL (i:=j) (by omega)
 rw [hA] at hA'
 injection hA' with hA'
 injection hA' with e1 e2
 subst e1 e2 hA
 have z0:=hh.c
 have hi':(i:Int) < (n:Int):=by omega
 have hj':(j:Int) < (n:Int):=by omega
 clear hh hL hn
 generalize (keyAt l i).1 = ri at *
 generalize (keyAt l i).2 = di at *
 generalize (keyAt l j).1 = rj at *
 generalize (keyAt l j).2 = dj at *
 go_enter Tryz.func208,Tryz.ntmps208
 go_wp2
 refine wp_region_still_tail 22 (by kernel_rfl) (by kernel_rfl) ?_
 simp only [List.take_succ_cons,List.take_zero,List.drop_succ_cons,List.drop_zero]
 change wpStill _ _ (World.drew _) (fun a'=>wpList _ _ _ _ a' (World.drew _)) _ _
 iterate 10 still_step
 still_call ((compareI_any _ _ _).mono fun e w' ⟨h1,h2⟩=>⟨h1,h2.symm⟩)
 iterate 10 still_step
 still_call ((compareI_any _ _ _).mono fun e w' ⟨h1,h2⟩=>⟨h1,h2.symm⟩)
 refine wpStill_nil ?_
 go_wp2_with fail
 refine (or_any (cmpI ri rj) (cmpI di dj) _ _ _ _ (by go_simp) (by go_simp)).mono ?_
 rintro e w1 ⟨rfl,rfl⟩
 go_wp2
 go_ret
 exact ⟨rfl,1,_,by rw [alloc_eq_grow]; rfl⟩
end Go.Proofs.YtlhkojcmcmkmaaaGreat
namespace Go.Proofs
open Go.Shelf
def Tryz.sortL_ren : Go.Shelf.Ren:=⟨fun | 6=>111 | 15=>173 | 14=>172 | 28=>219 | 29=>220 | 20=>211 | 21=>212 | 22=>213 | 23=>214 | 24=>215 | 25=>216 | 26=>217 | 27=>218 | 46=>239 | 47=>240 | 48=>241 | 49=>242 | 50=>243 | 57=>262 | n=>n,fun | 22=>25 | 24=>30 | 25=>97 | 3=>3 | 39=>192 | 0=>0 | 53=>225 | 55=>227 | 4=>4 | 46=>218 | 45=>217 | 50=>222 | 5=>5 | 9=>9 | 66=>239 | 70=>209 | 76=>255 | 77=>256 | n=>n,fun | n=>n⟩
theorem Tryz.sortL : Go.Proofs.SlLaysF0.n6 Tryz.prog Tryz.sortL_ren:={
 mixed:=by kernel_rfl
 f6:=⟨Tryz.f111.name,by decide,Tryz.func111.trans (congrArg some (by kernel_rfl))⟩
 f14:=⟨Tryz.f172.name,by decide,Tryz.func172.trans (congrArg some (by kernel_rfl))⟩
 f15:=Tryz.func173.trans (congrArg some (by kernel_rfl))
 f20:=⟨Tryz.f211.name,by decide,Tryz.func211.trans (congrArg some (by kernel_rfl))⟩
 f21:=⟨Tryz.f212.name,by decide,Tryz.func212.trans (congrArg some (by kernel_rfl))⟩
 f22:=⟨Tryz.f213.name,by decide,Tryz.func213.trans (congrArg some (by kernel_rfl))⟩
 f23:=⟨Tryz.f214.name,by decide,Tryz.func214.trans (congrArg some (by kernel_rfl))⟩
 f24:=⟨Tryz.f215.name,by decide,Tryz.func215.trans (congrArg some (by kernel_rfl))⟩
 f25:=⟨Tryz.f216.name,by decide,Tryz.func216.trans (congrArg some (by kernel_rfl))⟩
 f26:=⟨Tryz.f217.name,by decide,Tryz.func217.trans (congrArg some (by kernel_rfl))⟩
 f27:=⟨Tryz.f218.name,by decide,Tryz.func218.trans (congrArg some (by kernel_rfl))⟩
 f28:=Tryz.func219.trans (congrArg some (by kernel_rfl))
 f29:=Tryz.func220.trans (congrArg some (by kernel_rfl))
 f46:=⟨Tryz.f239.name,by decide,Tryz.func239.trans (congrArg some (by kernel_rfl))⟩
 f47:=Tryz.func240.trans (congrArg some (by kernel_rfl))
 f48:=Tryz.func241.trans (congrArg some (by kernel_rfl))
 f49:=⟨Tryz.f242.name,by decide,Tryz.func242.trans (congrArg some (by kernel_rfl))⟩
 f50:=⟨Tryz.f243.name,by decide,Tryz.func243.trans (congrArg some (by kernel_rfl))⟩
 f57:=⟨Tryz.f262.name,by decide,Tryz.func262.trans (congrArg some (by kernel_rfl))⟩
 t0:=Tryz.underlying0
 a0:=Tryz.isAgg0
 z0:=Tryz.sizeOf0
 v0:=Tryz.zeroValue0
 t3:=Tryz.underlying3
 a3:=Tryz.isAgg3
 z3:=Tryz.sizeOf3
 v3:=Tryz.zeroValue3
 t4:=Tryz.underlying4
 a4:=Tryz.isAgg4
 z4:=Tryz.sizeOf4
 v4:=Tryz.zeroValue4
 t5:=Tryz.underlying5
 a5:=Tryz.isAgg5
 z5:=Tryz.sizeOf5
 v5:=Tryz.zeroValue5
 t9:=Tryz.underlying9
 a9:=Tryz.isAgg9
 z9:=Tryz.sizeOf9
 v9:=Tryz.zeroValue9
 t22:=Tryz.underlying25
 a22:=Tryz.isAgg25
 z22:=Tryz.sizeOf25
 v22:=Tryz.zeroValue25
 t25:=Tryz.underlying97
 a25:=Tryz.isAgg97
 z25:=Tryz.sizeOf97
 v25:=Tryz.zeroValue97
 t39:=Tryz.underlying192
 a39:=Tryz.isAgg192
 z39:=Tryz.sizeOf192
 v39:=Tryz.zeroValue192
 t45:=Tryz.underlying217
 a45:=Tryz.isAgg217
 z45:=Tryz.sizeOf217
 v45:=Tryz.zeroValue217
 t46:=Tryz.underlying218
 a46:=Tryz.isAgg218
 z46:=Tryz.sizeOf218
 v46:=Tryz.zeroValue218
 t50:=Tryz.underlying222
 a50:=Tryz.isAgg222
 z50:=Tryz.sizeOf222
 v50:=Tryz.zeroValue222
 t53:=Tryz.underlying225
 a53:=Tryz.isAgg225
 z53:=Tryz.sizeOf225
 v53:=Tryz.zeroValue225
 t55:=Tryz.underlying227
 a55:=Tryz.isAgg227
 z55:=Tryz.sizeOf227
 v55:=Tryz.zeroValue227
 t66:=Tryz.underlying239
 a66:=Tryz.isAgg239
 z66:=Tryz.sizeOf239
 v66:=Tryz.zeroValue239
 t70:=Tryz.underlying209
 a70:=Tryz.isAgg209
 z70:=Tryz.sizeOf209
 v70:=Tryz.zeroValue209
 t76:=Tryz.underlying255
 a76:=Tryz.isAgg255
 z76:=Tryz.sizeOf255
 v76:=Tryz.zeroValue255
 t77:=Tryz.underlying256
 a77:=Tryz.isAgg256
 z77:=Tryz.sizeOf256
 v77:=Tryz.zeroValue256 }
end Go.Proofs
namespace Go.Proofs.YtlhkojcmcmkmaaaGreat
open Go.RowKit Go.Sort Go.Shelf
def cmpLn (x y : LineT) : Int:=orI (cmpI x.kind y.kind) (cmpS x.code y.code)
instance : Inhabited LineT:=⟨⟨0,⟨#[]⟩,0⟩⟩
set_option maxRecDepth 100000 in
set_option maxHeartbeats 1000000 in
theorem order_any (x y : LineT) (W:World) : Calls Tryz.prog 47 #[.agg #[.int .i64 x.kind,.string x.code,.int .i64 x.amount],.agg #[.int .i64 y.kind,.string y.code,.int .i64 y.amount]] W fun e w'=>e = .returned (.int .i64 (cmpLn x y))∧∃ q os',w' = grow (W.drewN q) os':=by
 go_enter Tryz.func47,Tryz.ntmps47
 go_wp2
 refine wp_region_still_tail 10 (by kernel_rfl) (by kernel_rfl) ?_
 simp only [List.take_succ_cons,List.take_zero,List.drop_succ_cons,List.drop_zero]
 change wpStill _ _ (World.drew _) (fun a'=>wpList _ _ _ _ a' (World.drew _)) _ _
 iterate 4 still_step
 still_call ((compareI_any _ _ _).mono fun e w' ⟨h1,h2⟩=>⟨h1,h2.symm⟩)
 iterate 4 still_step
 still_call ((compare_any _ _ _).mono fun e w' ⟨h1,h2⟩=>⟨h1,h2.symm⟩)
 refine wpStill_nil ?_
 go_wp2_with fail
 refine (or_any (cmpI x.kind y.kind) (cmpS x.code y.code) _ _ _ _ (by go_simp) (by go_simp)).mono ?_
 rintro e w1 ⟨rfl,rfl⟩
 go_wp2
 go_ret
 exact ⟨rfl,1,_,by rw [alloc_eq_grow,alloc_eq_grow,alloc_eq_grow,grow_grow,grow_grow]; rfl⟩
theorem cmpS_negN (a b : ByteArray) : decide (cmpS a b < 0) = Op.bytesLess a.toList b.toList:=by
 unfold cmpS
 split
 ·
  rename_i h; simp [h]
 ·
  rename_i h
  have h':Op.bytesLess a.toList b.toList = false:=by simpa using h
  split <;> simp [h']
theorem ltLn (x y : LineT) : ltOf cmpLn x y = lessL x y:=by
 rw [lessL_eq,← cmpS_negN]
 unfold ltOf cmpLn orI cmpI
 rcases Int.lt_trichotomy x.kind y.kind with h | h | h
 ·
  simp [h]
 ·
  simp [h]
 ·
  have h1:¬ x.kind < y.kind:=by omega
  have h2:¬ x.kind = y.kind:=by omega
  simp [h,h1,h2]
theorem Rec.ntrans {α κ : Type} {R:Rec α κ} (L:R.Law) (a b c : κ) (h1:R.lt a b = false) (h2:R.lt b c = false) : R.lt a c = false:=by
 cases h:R.lt a c
 ·
  rfl
 ·
  cases hb:R.lt b a
  ·
   have:=L.total _ _ h1 hb
   subst this
   rw [h] at h2; cases h2
  ·
   rw [L.trans _ _ _ hb h] at h2; cases h2
theorem swoLn : SWO (ltOf cmpLn) where
 irrefl x:=by rw [ltLn]; exact RL_law.irrefl _
 trans x y z h1 h2:=by
  rw [ltLn] at *
  exact RL_law.trans _ _ _ h1 h2
 ntrans x y z h1 h2:=by
  rw [ltLn] at *
  exact Rec.ntrans RL_law _ _ _ h1 h2
theorem only_sortN_any (w:World) (blk off n : Nat) (d:Array LineT) (os:Array Obj) : w.grownBy (sortWorldK encL 3 w blk off n d os) (some blk):=by
 refine ⟨rfl,rfl,rfl,size_sortWorldK_c encL 3 w blk off n d os,fun i hi hne=>?_⟩
 have hne':blk ≠ i:=fun e=>hne (by rw [e])
 have hsz:(putRowK encL 3 (Sort.ahead w n) blk off d).heap.size = w.heap.size:=by simp [putRowK,putRow,mapBlock,Sort.ahead]
 show ((putRowK encL 3 (Sort.ahead w n) blk off d).heap++os)[i]? = w.heap[i]?
 rw [Array.getElem?_append_left (by omega)]
 show (w.heap.modify blk _)[i]? = _
 rw [Array.getElem?_modify,if_neg hne']
set_option maxHeartbeats 1000000 in
theorem sortN_any (A:Option Addr) (cap base : Nat) (xs:List LineT) (w:World) (hown:Own encL 3 30 w base (.slice A xs.length cap) xs) (hl:xs.length < 4611686018427387904) :
  Calls Tryz.prog 111 #[.slice A xs.length cap,.func (.func 47) #[] #[]] w fun e w'=>e = .returned (.tuple #[]) ∧
   ∃ ys:List LineT,ys.Perm xs∧ys.Pairwise (fun a b=>lessL b a = false)∧SliceOf encL 3 w' w'.heap.size A ys∧w.grownBy w' (Value.slice A xs.length cap).ownBlock:=by
 rcases hown.2 with ⟨hv,h0⟩ | ⟨g,cap',cur,hv,hb,hg,hn,hm,hs,ht⟩
 ·
  injection hv with h1 h2 h3
  obtain rfl:xs = []:=List.eq_nil_of_length_eq_zero h0
  have hcon:=AnyF.slices_SortFunc_none { Tryz.sortL with } A cap (.func (.func 47) #[] #[]) w
  refine Calls.mono hcon fun e w' ⟨he,hw⟩=>⟨he,[],List.Perm.refl _,List.Pairwise.nil,SliceOf.nil_,by rw [hw]; exact only_refl _ _⟩
 ·
  injection hv with h1 h2 h3
  subst h1 h3
  have hgl:=(Array.getElem?_eq_some_iff.1 hg).1
  have eg:∀ args w,(callFunc 47 args).run Tryz.prog w = .ok (.enter 47 args) w:=enters_of Tryz.func47 (by kernel_rfl) rfl
  have hcmp:CmpLays Tryz.prog 47 #[] encL 3 cmpLn g 0 xs.toArray.size w:=fun _ _ _ _ x y=>order_any x y _
  have hH:HoldsK encL 3 w g 0 xs.toArray:=by
   intro j hj
   rw [size_flatK] at hj
   simp only [List.size_toArray] at hj
   have hdiv:j / 3 < xs.length:=by omega
   have hmod:j % 3 < 3:=Nat.mod_lt _ (by omega)
   refine ⟨?_,by simp [World.frozen?,hg]⟩
   rw [get_flatK _ _ _ _ (by simpa using hj),Nat.zero_add,cell_of_row w g j cur _ (0,0) hg]
   have hx:xs.toArray[j / 3]! = xs[j / 3]:=by simp [hdiv]
   rw [hx]
   have hu:(encL xs[j / 3])[j % 3]? = some ((encL xs[j / 3])[j % 3]!):=by
    have hlt:j % 3 < (encL xs[j / 3]).length:=by rw [encL_len]; exact hmod
    rw [List.getElem?_eq_getElem hlt,getElem!_pos (encL xs[j / 3]) (j % 3) hlt]
   have h1:=flatMap_at encL_len xs (j / 3) (j % 3) _ _ (List.getElem?_eq_getElem hdiv) hu
   rw [show j / 3 * 3+j % 3 = j by omega] at h1
   rw [← ht,List.getElem?_take,if_pos (by omega)] at h1
   simpa using h1
  have hcon:=AnyQ.slices_SortFunc Tryz.sortL 3 Tryz.isAgg30 Tryz.sizeOf30 encL encL_len encL_one cmpLn swoLn 47 #[] g 0 cap xs.toArray w eg hcmp hH hgl (by simpa using hl)
  have hcon':Calls Tryz.prog 111 #[.slice (some ⟨g,0,none⟩) xs.length cap,.func (.func 47) #[] #[]] w _:=hcon
  refine hcon'.mono ?_
  rintro e w' ⟨he,d',n,os,hp,hsd,rfl⟩
  obtain ⟨hp1,hp2,hp3⟩:=hp
  refine ⟨he,d'.toList,?_,?_,?_,only_sortN_any _ _ _ _ _ _⟩
  ·
   have e1:xs.toArray.size = xs.length:=by simp
   rw [e1] at hp1 hp3
   have e2:(d'.extract 0 xs.length) = d':=by rw [← hp1]; simp
   have e3:(xs.toArray.extract 0 xs.length) = xs.toArray:=by simp
   rw [e2,e3] at hp3
   exact hp3
  ·
   rw [List.pairwise_iff_getElem]
   intro i j hi hj hij
   have h1:=hsd i j (Nat.zero_le _) hij (by rw [← hp1]; simpa using hj)
   rw [ltLn,getElem!_pos d' i (by simpa using hi),getElem!_pos d' j (by simpa using hj)] at h1
   simpa using h1
  ·
   intro _
   refine ⟨g,0,rfl,lt_sortWorldK encL 3 w g 0 n d' os hgl,fun i x hi j u hu=>?_⟩
   have hH':=holdsK_sortWorldK_c encL 3 w g 0 xs.toArray d' n os hH hgl hp1
   have hil:i < d'.size:=by simpa using (List.getElem?_eq_some_iff.1 hi).1
   have hjl:j < 3:=by have:=(List.getElem?_eq_some_iff.1 hu).1; rwa [encL_len] at this
   have h1:=(hH' (i * 3+j) (by rw [size_flatK]; omega)).1
   rw [get_flatK _ _ _ _ (by omega),show (i * 3+j) / 3 = i by omega,show (i * 3+j) % 3 = j by omega,getElem!_pos d' i hil] at h1
   have hx:d'[i] = x:=by
    have:=(List.getElem?_eq_some_iff.1 hi).2
    simpa using this
   rw [hx] at h1
   have hu2:(encL x)[j]! = u:=by
    have hlt:=(List.getElem?_eq_some_iff.1 hu).1
    rw [getElem!_pos (encL x) j hlt]
    exact (List.getElem?_eq_some_iff.1 hu).2
   rw [hu2] at h1
   rw [Nat.zero_add]
   rw [Nat.zero_add] at h1
   exact h1
end Go.Proofs.YtlhkojcmcmkmaaaGreat
