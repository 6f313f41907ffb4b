/- Joined texts: Title ShelfL Cmp SortL PutL. Conditions: as stated. -/
import Derived.DeepKeys4
import Derived.Shelf.SlGeneric
import Derived.Shelf.SlSortCmp.WholeK
import Derived.Shelf.SlSortCmp.NoneTotal
import Derived.Ground.SlsfProg
import Derived.Test.YtjncpgbhokjbfaaGreatProg
import Derived.StillTailTactics
import Derived.Deep.RegionWith
import Derived.Deep.DeepCutAuto
import Derived.RegionTactic
import Derived.Test.YtjncpgbhokjbfaaGreatJ02
import Derived.Test.YtjncpgbhokjbfaaGreatJ03
import Derived.Test.YtjncpgbhokjbfaaGreatJ04
namespace Go.Proofs.YtjncpgbhokjbfaaGreat
open Go.RowKit Go.Maps Go.WideMaps Go.WideElems Go.ChangeMaps
def litT (c:Int × List UInt8) : Lit:=.string (keyBytes [.int .i64 c.1,.string c.2])
def goodT (c:Int × List UInt8) : Prop:=(Lit.int .i64 c.1).wf = true∧c.2.length≤maxLen
theorem lawT : KeyLaw Tryz.prog 134:=deep_law_laid (m:=3) (by kernel_rfl) (by omega) (of_decide_eq_true (by kernel_rfl)) (by kernel_rfl) (by kernel_rfl)
theorem keyT (k:Int) (s:ByteArray) (h:goodT (k,s.data.toList)) : keyOf Tryz.prog 134 (.agg #[.int .i64 k,.string s]) = some (litT (k,s.data.toList)):=by
 obtain ⟨h1,h2⟩:=h
 have hs:s.size≤maxLen:=by simpa using h2
 have c1:Tryz.prog.cellsOf 134 = 2:=by kernel_rfl
 have c2:Tryz.prog.cellsOf 3 = 1:=by kernel_rfl
 have c3:Tryz.prog.cellsOf 9 = 1:=by kernel_rfl
 have kt:Tryz.prog.keyType 134 = true:=by kernel_rfl
 have hl:∀ d,Tryz.prog.keyLits (d+1+1) 134 [.int .i64 k,.string s] = some [.int .i64 k,.string s.data.toList]:=fun d=>by
  simp [Program.keyLits,Tryz.underlying134,Tryz.underlying3,Tryz.underlying9,c1,c2,c3,h1,hs]
 have hts:1≤Tryz.prog.types.size:=of_decide_eq_true (by kernel_rfl)
 unfold keyOf
 simp only [Tryz.underlying134,kt,Bool.true_and,Value.formed,c1]
 generalize Tryz.prog.types.size = ts at hts ⊢
 obtain ⟨d,rfl⟩ : ∃ d,ts = d+1:=⟨ts - 1,by omega⟩
 simp only [Value.cells,hl,litT]
 rfl
theorem klI {P:Program} {d:Nat} {t:TypeId} {a:Value} {la:List Lit} (ht:P.underlying t = some (.int .i64)) (h:P.keyLits (d+1) t [a] = some la) : ∃ k : Int,a = .int .i64 k∧(Lit.int .i64 k).wf = true∧la = [.int .i64 k]:=by
 unfold Program.keyLits at h
 simp only [ht] at h
 cases a <;> simp only [reduceCtorEq] at h
 split at h
 ·
  rename_i q n hq
  obtain ⟨rfl,hw⟩:=hq
  injection h with h
  exact ⟨_,rfl,hw,h.symm⟩
 ·
  cases h
theorem klS {P:Program} {d:Nat} {t:TypeId} {a:Value} {la:List Lit} (ht:P.underlying t = some .string) (h:P.keyLits (d+1) t [a] = some la) : ∃ s : ByteArray,a = .string s∧s.size≤maxLen∧la = [.string s.data.toList]:=by
 unfold Program.keyLits at h
 simp only [ht] at h
 cases a <;> simp only [reduceCtorEq] at h
 split at h
 ·
  rename_i s hs
  injection h with h
  exact ⟨_,rfl,hs,h.symm⟩
 ·
  cases h
theorem keyT_inv {v:Value} {l:Lit} (h:keyOf Tryz.prog 134 v = some l) : ∃ (k:Int) (s:ByteArray),v = .agg #[.int .i64 k,.string s]∧goodT (k,s.data.toList)∧l = litT (k,s.data.toList):=by
 obtain ⟨xs,L,rfl,hL,rfl⟩:=keyOf_top (by kernel_rfl) h
 have c1:Tryz.prog.cellsOf 134 = 2:=by kernel_rfl
 have c2:Tryz.prog.cellsOf 3 = 1:=by kernel_rfl
 have c3:Tryz.prog.cellsOf 9 = 1:=by kernel_rfl
 have hts:1≤Tryz.prog.types.size:=of_decide_eq_true (by kernel_rfl)
 generalize Tryz.prog.types.size = ts at hts hL
 obtain ⟨d,rfl⟩ : ∃ d,ts = d+1:=⟨ts - 1,by omega⟩
 unfold Program.keyLits at hL
 simp only [Tryz.underlying134,c1] at hL
 split at hL
 ·
  rename_i hlen
  obtain ⟨hlen,_⟩:=hlen
  generalize hys:xs.toList = ys at hL hlen
  obtain ⟨a,b,rfl⟩ : ∃ a b,ys = [a,b]:=by
   rcases ys with _ | ⟨a,_ | ⟨b,_ | ⟨c,ys⟩⟩⟩
   ·
    simp at hlen
   ·
    simp at hlen
   ·
    exact ⟨a,b,rfl⟩
   ·
    simp at hlen
  have hxs:xs = #[a,b]:=by rw [← hys]
  simp [c2,c3] at hL
  rw [Option.bind_eq_some_iff] at hL
  obtain ⟨la,hla,hL⟩:=hL
  simp only [Function.comp,Option.map_eq_some_iff,Option.bind_eq_some_iff,Option.some.injEq] at hL
  obtain ⟨q,⟨q2,⟨lb,hlb,rfl⟩,rfl⟩,rfl⟩:=hL
  obtain ⟨k,rfl,hw,rfl⟩:=klI Tryz.underlying3 hla
  obtain ⟨s,rfl,hs,rfl⟩:=klS Tryz.underlying9 hlb
  exact ⟨k,s,by rw [hxs],⟨hw,by simpa using hs⟩,rfl⟩
 ·
  cases hL
theorem ba_of (l:List UInt8) : (⟨l.toArray⟩ : ByteArray).data.toList = l:=rfl
theorem agg2_inj {a b c d : Value} (h:Value.agg #[a,b] = Value.agg #[c,d]) : a = c∧b = d:=by simpa using h
theorem keyGT : KeyG litT goodT where
 lit c _:=trivial
 inj c d hc hd e:=by
  obtain ⟨k,l⟩:=c
  obtain ⟨k',l'⟩:=d
  have h1:=keyT k ⟨l.toArray⟩ hc
  have h2:=keyT k' ⟨l'.toArray⟩ hd
  rw [ba_of] at h1 h2
  rw [← e] at h2
  have:=lawT.inj h1 h2
  have h34:=agg2_inj this
  clear h1 h2 this hc hd e
  obtain ⟨h3,h4⟩:=h34
  injection h3 with _ h3
  injection h4 with h4
  have h5:=congrArg (fun x:ByteArray=>x.data.toList) h4
  rw [h3,show l = l' from h5]
end Go.Proofs.YtjncpgbhokjbfaaGreat
namespace Go.Proofs
open Go.Shelf
def Tryz.sortL_ren : Go.Shelf.Ren:=⟨fun | 6=>115 | 15=>73 | 14=>156 | 28=>132 | 29=>133 | 20=>170 | 21=>171 | 22=>172 | 23=>173 | 24=>174 | 25=>175 | 26=>176 | 27=>177 | 46=>183 | 47=>161 | 48=>162 | 49=>184 | 50=>185 | 57=>187 | n=>n,fun | 22=>39 | 24=>53 | 25=>179 | 3=>3 | 39=>144 | 0=>0 | 53=>192 | 55=>194 | 4=>4 | 46=>185 | 45=>184 | 50=>189 | 5=>5 | 9=>9 | 66=>216 | 70=>220 | 76=>233 | 77=>234 | n=>n,fun | n=>n⟩
theorem Tryz.sortL : Go.Proofs.SlLaysF0.n6 Tryz.prog Tryz.sortL_ren:={
 mixed:=by kernel_rfl
 f6:=⟨Tryz.f115.name,by decide,Tryz.func115.trans (congrArg some (by kernel_rfl))⟩
 f14:=⟨Tryz.f156.name,by decide,Tryz.func156.trans (congrArg some (by kernel_rfl))⟩
 f15:=Tryz.func73.trans (congrArg some (by kernel_rfl))
 f20:=⟨Tryz.f170.name,by decide,Tryz.func170.trans (congrArg some (by kernel_rfl))⟩
 f21:=⟨Tryz.f171.name,by decide,Tryz.func171.trans (congrArg some (by kernel_rfl))⟩
 f22:=⟨Tryz.f172.name,by decide,Tryz.func172.trans (congrArg some (by kernel_rfl))⟩
 f23:=⟨Tryz.f173.name,by decide,Tryz.func173.trans (congrArg some (by kernel_rfl))⟩
 f24:=⟨Tryz.f174.name,by decide,Tryz.func174.trans (congrArg some (by kernel_rfl))⟩
 f25:=⟨Tryz.f175.name,by decide,Tryz.func175.trans (congrArg some (by kernel_rfl))⟩
 f26:=⟨Tryz.f176.name,by decide,Tryz.func176.trans (congrArg some (by kernel_rfl))⟩
 f27:=⟨Tryz.f177.name,by decide,Tryz.func177.trans (congrArg some (by kernel_rfl))⟩
 f28:=Tryz.func132.trans (congrArg some (by kernel_rfl))
 f29:=Tryz.func133.trans (congrArg some (by kernel_rfl))
 f46:=⟨Tryz.f183.name,by decide,Tryz.func183.trans (congrArg some (by kernel_rfl))⟩
 f47:=Tryz.func161.trans (congrArg some (by kernel_rfl))
 f48:=Tryz.func162.trans (congrArg some (by kernel_rfl))
 f49:=⟨Tryz.f184.name,by decide,Tryz.func184.trans (congrArg some (by kernel_rfl))⟩
 f50:=⟨Tryz.f185.name,by decide,Tryz.func185.trans (congrArg some (by kernel_rfl))⟩
 f57:=⟨Tryz.f187.name,by decide,Tryz.func187.trans (congrArg some (by kernel_rfl))⟩
 t0:=Tryz.underlying0
 a0:=Tryz.isAgg0
 z0:=Tryz.sizeOf0
 v0:=Tryz.zeroValue0
 t3:=Tryz.underlying3
 a3:=Tryz.isAgg3
 z3:=Tryz.sizeOf3
 v3:=Tryz.zeroValue3
 t4:=Tryz.underlying4
 a4:=Tryz.isAgg4
 z4:=Tryz.sizeOf4
 v4:=Tryz.zeroValue4
 t5:=Tryz.underlying5
 a5:=Tryz.isAgg5
 z5:=Tryz.sizeOf5
 v5:=Tryz.zeroValue5
 t9:=Tryz.underlying9
 a9:=Tryz.isAgg9
 z9:=Tryz.sizeOf9
 v9:=Tryz.zeroValue9
 t22:=Tryz.underlying39
 a22:=Tryz.isAgg39
 z22:=Tryz.sizeOf39
 v22:=Tryz.zeroValue39
 t25:=Tryz.underlying179
 a25:=Tryz.isAgg179
 z25:=Tryz.sizeOf179
 v25:=Tryz.zeroValue179
 t39:=Tryz.underlying144
 a39:=Tryz.isAgg144
 z39:=Tryz.sizeOf144
 v39:=Tryz.zeroValue144
 t45:=Tryz.underlying184
 a45:=Tryz.isAgg184
 z45:=Tryz.sizeOf184
 v45:=Tryz.zeroValue184
 t46:=Tryz.underlying185
 a46:=Tryz.isAgg185
 z46:=Tryz.sizeOf185
 v46:=Tryz.zeroValue185
 t50:=Tryz.underlying189
 a50:=Tryz.isAgg189
 z50:=Tryz.sizeOf189
 v50:=Tryz.zeroValue189
 t53:=Tryz.underlying192
 a53:=Tryz.isAgg192
 z53:=Tryz.sizeOf192
 v53:=Tryz.zeroValue192
 t55:=Tryz.underlying194
 a55:=Tryz.isAgg194
 z55:=Tryz.sizeOf194
 v55:=Tryz.zeroValue194
 t66:=Tryz.underlying216
 a66:=Tryz.isAgg216
 z66:=Tryz.sizeOf216
 v66:=Tryz.zeroValue216
 t70:=Tryz.underlying220
 a70:=Tryz.isAgg220
 z70:=Tryz.sizeOf220
 v70:=Tryz.zeroValue220
 t76:=Tryz.underlying233
 a76:=Tryz.isAgg233
 z76:=Tryz.sizeOf233
 v76:=Tryz.zeroValue233
 t77:=Tryz.underlying234
 a77:=Tryz.isAgg234
 z77:=Tryz.sizeOf234
 v77:=Tryz.zeroValue234 }
end Go.Proofs
namespace Go.Proofs.YtjncpgbhokjbfaaGreat
open Go.RowKit
def cmpS (a b : ByteArray) : Int:=if Op.bytesLess a.toList b.toList then -1 else if !(Op.bytesLess a.toList b.toList || a.toList == b.toList) then 1 else 0
set_option maxHeartbeats 400000 in
theorem isNaN_any (a:ByteArray) (w:World) : Calls Tryz.prog 178 #[.string a] w fun e w'=>e = .returned (.bool false)∧w = w':=by
 go_enter Tryz.func178,Tryz.ntmps178
 go_wp2
 go_ret
 exact ⟨by simp,rfl⟩
set_option maxHeartbeats 400000 in
theorem compare_any (a b : ByteArray) (w:World) : Calls Tryz.prog 157 #[.string a,.string b] w fun e w'=>e = .returned (.int .i64 (cmpS a b))∧w = w':=by
 go_enter Tryz.func157,Tryz.ntmps157
 go_wp2_with (go_at_call 178; refine (isNaN_any _ _).mono ?_; rintro e w' ⟨rfl,rfl⟩)
 all_goals go_ret
 all_goals refine ⟨?_,rfl⟩
 all_goals (simp [cmpS, *]; try simp_all)
end Go.Proofs.YtjncpgbhokjbfaaGreat
namespace Go.Proofs.YtjncpgbhokjbfaaGreat
open Go.RowKit Go.Sort Go.Shelf
def cmpLn (x y : LineT) : Int:=orI (cmpI x.kind y.kind) (cmpS x.code y.code)
instance : Inhabited LineT:=⟨⟨0,⟨#[]⟩,0⟩⟩
set_option maxRecDepth 100000 in
set_option maxHeartbeats 1000000 in
theorem order_any (x y : LineT) (W:World) : Calls Tryz.prog 116 #[.agg #[.int .i64 x.kind,.string x.code,.int .i64 x.amount],.agg #[.int .i64 y.kind,.string y.code,.int .i64 y.amount]] W fun e w'=>e = .returned (.int .i64 (cmpLn x y))∧∃ q os',w' = grow (W.drewN q) os':=by
 go_enter Tryz.func116,Tryz.ntmps116
 go_wp2
 refine wp_region_still_tail 10 (by kernel_rfl) (by kernel_rfl) ?_
 simp only [List.take_succ_cons,List.take_zero,List.drop_succ_cons,List.drop_zero]
 change wpStill _ _ (World.drew _) (fun a'=>wpList _ _ _ _ a' (World.drew _)) _ _
 iterate 4 still_step
 still_call ((compareI_any _ _ _).mono fun e w' ⟨h1,h2⟩=>⟨h1,h2.symm⟩)
 iterate 4 still_step
 still_call ((compare_any _ _ _).mono fun e w' ⟨h1,h2⟩=>⟨h1,h2.symm⟩)
 refine wpStill_nil ?_
 go_wp2_with fail
 refine (or_any (cmpI x.kind y.kind) (cmpS x.code y.code) _ _ _ _ (by go_simp) (by go_simp)).mono ?_
 rintro e w1 ⟨rfl,rfl⟩
 go_wp2
 go_ret
 exact ⟨rfl,1,_,by rw [alloc_eq_grow,alloc_eq_grow,alloc_eq_grow,grow_grow,grow_grow]; rfl⟩
theorem cmpS_neg (a b : ByteArray) : decide (cmpS a b < 0) = Op.bytesLess a.toList b.toList:=by
 unfold cmpS
 split
 ·
  rename_i h; simp [h]
 ·
  rename_i h
  have h':Op.bytesLess a.toList b.toList = false:=by simpa using h
  split <;> simp [h']
theorem ltLn (x y : LineT) : ltOf cmpLn x y = lessL x y:=by
 rw [lessL_eq,← cmpS_neg]
 unfold ltOf cmpLn orI cmpI
 rcases Int.lt_trichotomy x.kind y.kind with h | h | h
 ·
  simp [h]
 ·
  simp [h]
 ·
  have h1:¬ x.kind < y.kind:=by omega
  have h2:¬ x.kind = y.kind:=by omega
  simp [h,h1,h2]
theorem Rec.ntrans {α κ : Type} {R:Rec α κ} (L:R.Law) (a b c : κ) (h1:R.lt a b = false) (h2:R.lt b c = false) : R.lt a c = false:=by
 cases h:R.lt a c
 ·
  rfl
 ·
  cases hb:R.lt b a
  ·
   have:=L.total _ _ h1 hb
   subst this
   rw [h] at h2; cases h2
  ·
   rw [L.trans _ _ _ hb h] at h2; cases h2
theorem swoLn : SWO (ltOf cmpLn) where
 irrefl x:=by rw [ltLn]; exact RL_law.irrefl _
 trans x y z h1 h2:=by
  rw [ltLn] at *
  exact RL_law.trans _ _ _ h1 h2
 ntrans x y z h1 h2:=by
  rw [ltLn] at *
  exact Rec.ntrans RL_law _ _ _ h1 h2
theorem only_sortL_any (w:World) (blk off n : Nat) (d:Array LineT) (os:Array Obj) : w.grownBy (sortWorldK encL 3 w blk off n d os) (some blk):=by
 refine ⟨rfl,rfl,rfl,size_sortWorldK_c encL 3 w blk off n d os,fun i hi hne=>?_⟩
 have hne':blk ≠ i:=fun e=>hne (by rw [e])
 have hsz:(putRowK encL 3 (Sort.ahead w n) blk off d).heap.size = w.heap.size:=by simp [putRowK,putRow,mapBlock,Sort.ahead]
 show ((putRowK encL 3 (Sort.ahead w n) blk off d).heap++os)[i]? = w.heap[i]?
 rw [Array.getElem?_append_left (by omega)]
 show (w.heap.modify blk _)[i]? = _
 rw [Array.getElem?_modify,if_neg hne']
set_option maxHeartbeats 1000000 in
theorem sortL_any (A:Option Addr) (cap base : Nat) (xs:List LineT) (w:World) (hown:Own encL 3 53 w base (.slice A xs.length cap) xs) (hl:xs.length < 4611686018427387904) :
  Calls Tryz.prog 115 #[.slice A xs.length cap,.func (.func 116) #[] #[]] w fun e w'=>e = .returned (.tuple #[]) ∧
   ∃ ys:List LineT,ys.Perm xs∧ys.Pairwise (fun a b=>lessL b a = false)∧SliceOf encL 3 w' w'.heap.size A ys∧Below base w w':=by
 rcases hown.2 with ⟨hv,h0⟩ | ⟨g,cap',cur,hv,hb,hg,hn,hm,hs,ht⟩
 ·
  injection hv with h1 h2 h3
  obtain rfl:xs = []:=List.eq_nil_of_length_eq_zero h0
  have hcon:=AnyF.slices_SortFunc_none { Tryz.sortL with } A cap (.func (.func 116) #[] #[]) w
  refine Calls.mono hcon fun e w' ⟨he,hw⟩=>⟨he,[],List.Perm.refl _,List.Pairwise.nil,SliceOf.nil_,by rw [hw]; exact Below.refl _ _⟩
 ·
  injection hv with h1 h2 h3
  subst h1 h3
  have hgl:=(Array.getElem?_eq_some_iff.1 hg).1
  have eg:∀ args w,(callFunc 116 args).run Tryz.prog w = .ok (.enter 116 args) w:=enters_of Tryz.func116 (by kernel_rfl) rfl
  have hcmp:CmpLays Tryz.prog 116 #[] encL 3 cmpLn g 0 xs.toArray.size w:=fun _ _ _ _ x y=>order_any x y _
  have hH:HoldsK encL 3 w g 0 xs.toArray:=by
   intro j hj
   rw [size_flatK] at hj
   simp only [List.size_toArray] at hj
   have hdiv:j / 3 < xs.length:=by omega
   have hmod:j % 3 < 3:=Nat.mod_lt _ (by omega)
   refine ⟨?_,by simp [World.frozen?,hg]⟩
   rw [get_flatK _ _ _ _ (by simpa using hj),Nat.zero_add,cell_of_row w g j cur _ (0,0) hg]
   have hx:xs.toArray[j / 3]! = xs[j / 3]:=by simp [hdiv]
   rw [hx]
   have hu:(encL xs[j / 3])[j % 3]? = some ((encL xs[j / 3])[j % 3]!):=by
    have hlt:j % 3 < (encL xs[j / 3]).length:=by rw [encL_len]; exact hmod
    rw [List.getElem?_eq_getElem hlt,getElem!_pos (encL xs[j / 3]) (j % 3) hlt]
   have h1:=flatMap_at encL_len xs (j / 3) (j % 3) _ _ (List.getElem?_eq_getElem hdiv) hu
   rw [show j / 3 * 3+j % 3 = j by omega] at h1
   rw [← ht,List.getElem?_take,if_pos (by omega)] at h1
   simpa using h1
  have hcon:=AnyQ.slices_SortFunc Tryz.sortL 3 Tryz.isAgg53 Tryz.sizeOf53 encL encL_len encL_one cmpLn swoLn 116 #[] g 0 cap xs.toArray w eg hcmp hH hgl (by simpa using hl)
  have hcon':Calls Tryz.prog 115 #[.slice (some ⟨g,0,none⟩) xs.length cap,.func (.func 116) #[] #[]] w _:=hcon
  refine hcon'.mono ?_
  rintro e w' ⟨he,d',n,os,hp,hsd,rfl⟩
  obtain ⟨hp1,hp2,hp3⟩:=hp
  refine ⟨he,d'.toList,?_,?_,?_,only_below (only_sortL_any _ _ _ _ _ _) (by omega) (fun q e=>by injection e; omega)⟩
  ·
   have e1:xs.toArray.size = xs.length:=by simp
   rw [e1] at hp1 hp3
   have e2:(d'.extract 0 xs.length) = d':=by rw [← hp1]; simp
   have e3:(xs.toArray.extract 0 xs.length) = xs.toArray:=by simp
   rw [e2,e3] at hp3
   exact hp3
  ·
   rw [List.pairwise_iff_getElem]
   intro i j hi hj hij
   have h1:=hsd i j (Nat.zero_le _) hij (by rw [← hp1]; simpa using hj)
   rw [ltLn,getElem!_pos d' i (by simpa using hi),getElem!_pos d' j (by simpa using hj)] at h1
   simpa using h1
  ·
   intro _
   refine ⟨g,0,rfl,lt_sortWorldK encL 3 w g 0 n d' os hgl,fun i x hi j u hu=>?_⟩
   have hH':=holdsK_sortWorldK_c encL 3 w g 0 xs.toArray d' n os hH hgl hp1
   have hil:i < d'.size:=by simpa using (List.getElem?_eq_some_iff.1 hi).1
   have hjl:j < 3:=by have:=(List.getElem?_eq_some_iff.1 hu).1; rwa [encL_len] at this
   have h1:=(hH' (i * 3+j) (by rw [size_flatK]; omega)).1
   rw [get_flatK _ _ _ _ (by omega),show (i * 3+j) / 3 = i by omega,show (i * 3+j) % 3 = j by omega,getElem!_pos d' i hil] at h1
   have hx:d'[i] = x:=by
    have:=(List.getElem?_eq_some_iff.1 hi).2
    simpa using this
   rw [hx] at h1
   have hu2:(encL x)[j]! = u:=by
    have hlt:=(List.getElem?_eq_some_iff.1 hu).1
    rw [getElem!_pos (encL x) j hlt]
    exact (List.getElem?_eq_some_iff.1 hu).2
   rw [hu2] at h1
   rw [Nat.zero_add]
   rw [Nat.zero_add] at h1
   exact h1
end Go.Proofs.YtjncpgbhokjbfaaGreat
namespace Go.Proofs.YtjncpgbhokjbfaaGreat
open Go.RowKit
def PutCut (w wr : World) (e:LineT) (v:Value) (ys:List LineT) (b:Bool) (s:Value) (wx:World) : Prop:=s = .bool b∧Own encL 3 53 wx (w.heap.size+1) v ys∧Blk wx w.heap.size 53 #[.int .i64 e.kind,.string e.code,.int .i64 e.amount]∧Below w.heap.size w wx∧Below wr.heap.size wr wx
theorem key_eqL {x y : LineT} (h1:x.kind = y.kind) (h2 : (x.code.toList == y.code.toList) = true) : RL.key x = RL.key y:=by
 rw [ByteArray.toList_eq,ByteArray.toList_eq] at h2
 show (x.kind,x.code.data.toList) = (y.kind,y.code.data.toList)
 rw [h1,(by simpa using h2:x.code.data.toList = y.code.data.toList)]
set_option maxRecDepth 100000 in
set_option maxHeartbeats 4000000 in
theorem putL_any (A:Option Addr) (cap:Nat) (xs:List LineT) (e:LineT) (w:World) (h:SliceOf encL 3 w w.heap.size A xs) (hc:xs.length≤cap) (hcm:cap≤maxLen) (hl:xs.length≤1000000)
  (hx:∀ x ∈ xs,-1000000000000000000≤x.amount∧x.amount≤1000000000000000000) (he1 : -1000000000000000≤e.amount) (he2:e.amount≤1000000000000000) :
  Calls Tryz.prog 66 #[.slice A xs.length cap,.agg #[.int .i64 e.kind,.string e.code,.int .i64 e.amount]] w fun r w'=>∃ v,r = .returned v∧Own encL 3 53 w' w.heap.size v (RL.put xs e)∧Below w.heap.size w w':=by
 have HX:=Lib.hid hx; clear hx
 have hcm':cap≤9223372036854775807:=hcm
 clear hcm
 go_enter Tryz.func66,Tryz.ntmps66
 go_wp2
 go_loopw [5,6] (fun v i wr=>∃ k:Nat,k≤xs.length∧i = .int .i64 k∧Hid (∀ j,(hj:j < xs.length)→j < k→lessL xs[j] e = true)∧Own encL 3 53 wr (w.heap.size+1) v (xs.take k)∧Blk wr w.heap.size 53 #[.int .i64 e.kind,.string e.code,.int .i64 e.amount]∧Below w.heap.size w wr) (fun _ i _=>xs.length - (intOf i).toNat)
 case atStart=>exact ⟨0,by omega,rfl,fun j _ hj=>absurd hj (by omega),by simpa using Own.nil_ _ _,Blk.new _ _ _,below_new _ _⟩
 case round =>
  obtain ⟨k,hk,rfl,hall,hown,hblk,hbel⟩:=hrel
  have hsz:=hblk.lt
  go_upto_region 3 with fail
  go_cut [18] (fun s wx=>PutCut w wr e u5 (xs.take k) (if h:k < xs.length then lessL xs[k] e else false) s wx)
  case first =>
   by_cases hlt:k < xs.length
   ·
    obtain ⟨b,off,rfl,hb,hcell⟩:=(h.below hbel).at_ hlt
    have hbw:b < wr.heap.size:=by have:=hbel.size; omega
    have c0:=Bw.cell (w:=wr) (a:=⟨b,off+k * 3+0,none⟩) hbw (hcell 0 _ rfl)
    have c1:=Bw.cell (w:=wr) (a:=⟨b,off+k * 3+1,none⟩) hbw (hcell 1 _ rfl)
    have c2:=Bw.cell (w:=wr) (a:=⟨b,off+k * 3+2,none⟩) hbw (hcell 2 _ rfl)
    have e0:=Bw.cell (w:=wr) (a:=⟨w.heap.size,0,none⟩) hsz (hblk.cell 0)
    have e1:=Bw.cell (w:=wr) (a:=⟨w.heap.size,1,none⟩) hsz (hblk.cell 1)
    have e2:=Bw.cell (w:=wr) (a:=⟨w.heap.size,2,none⟩) hsz (hblk.cell 2)
    simp only [Nat.add_zero] at c0
    have hlt':(k:Int) < (xs.length:Int):=by omega
    have HC:Hid ((if h:k < xs.length then lessL xs[k] e else false) = lessL xs[k] e):=by rw [Hid,dif_pos hlt]
    clear hcell
    refine wp_region_below (by kernel_rfl) (by kernel_rfl) ?_
    repeat (first | go_big_quiet_step ((exact Bw.call _ (less32_any xs[k] e _))) | quiet_step ((exact Bw.call _ (less32_any xs[k] e _))))
    refine wpQuiet_nil ?_
    intro W2 hw'
    obtain ⟨⟨W9,hW2⟩,hw''⟩:=hw'
    subst hw''
    go_wp2_with fail
    go_meet
    exact ⟨by rw [HC.out],hown.adv hW2,hblk.adv hW2,bel_adv hbel hW2,hW2⟩
   ·
    have hg0:decide ((k:Int) < (xs.length:Int)) = false:=by simp; omega
    have hg1:decide (k < xs.length) = false:=by simp; omega
    have HC:Hid ((if h:k < xs.length then lessL xs[k] e else false) = false):=by rw [Hid,dif_neg hlt]
    go_quiet (fail)
    go_wp2_with fail
    go_meet
    exact ⟨by rw [HC.out],hown.drewN _,hblk.drewN _,below_drewN hbel _,below_drewN (Below.refl _ _) _⟩
  case rest =>
   clear hown hblk hbel hsz
   obtain ⟨rfl,hown,hblk,hbel,hbwr⟩:=hcut
   have hsz:=hblk.lt
   have e0:=hblk.cell 0
   have e1:=hblk.cell 1
   have e2:=hblk.cell 2
   simp only [nqg,nqh,nqi] at e0 e1 e2
   have f2:=hblk.frozen 2
   by_cases hlt:k < xs.length
   ·
    rw [dif_pos hlt]
    obtain ⟨b,off,hA,hb,hcell⟩:=(h.below hbel).at_ hlt
    have c0:=hcell 0 _ rfl
    have c1:=hcell 1 _ rfl
    have c2:=hcell 2 _ rfl
    simp only [Nat.add_zero] at c0
    clear hcell
    subst hA
    by_cases hls:lessL xs[k] e = true
    ·
     have HLS:=Lib.hid hls
     rw [hls]
     clear hls
     go_wp2_with (at_builtin; (refine wpList_append_one _ _ 39 ⟨xs[k].kind,xs[k].code,xs[k].amount⟩ _ 32 _ infoL Tryz.underlying39 hown encL_len (by omega) rfl (encL_one _) (by simp; omega) (by omega) (by omega) (by rfl) (by rfl) (by rfl) (by rfl) (by simp) (by rfl) ?_); intro v2 w6 hown6 hg6)
     go_roundw
     case rel =>
      have hr:=fun g hg=>(hown.block_lt (g:=g) hg).1
      have hfin:∃ k':Nat,k'≤xs.length∧Value.int .i64 ((k:Int)+1) = .int .i64 k'∧Hid (∀ j,(hj:j < xs.length)→j < k'→lessL xs[j] e = true)∧Own encL 3 53 w6 (w.heap.size+1) v2 (xs.take k')∧Blk w6 w.heap.size 53 #[.int .i64 e.kind,.string e.code,.int .i64 e.amount]∧Below w.heap.size w w6:=by
       refine ⟨k+1,by omega,by go_num,fun j hj hjk=>?_,?_,hblk.grown hg6 (fun e=>by have:=hr _ e.symm; omega),bel_only hbel hg6 (fun g hg=>by have:=hr g hg; omega)⟩
       ·
        rcases Nat.lt_or_ge j k with h1 | h1
        ·
         exact hall.out j hj h1
        ·
         obtain rfl:j = k:=by omega
         exact HLS.out
       ·
        rw [List.take_succ_eq_append_getElem hlt]
        exact hown6
      first | exact hfin | ((repeat apply Exists.intro); exact ⟨hfin,rfl⟩)
     case measure=>simp [intOf]; omega
    ·
     have hls':lessL xs[k] e = false:=by simpa using hls
     have HLS:=Lib.hid hls'
     rw [hls']
     clear hls hls'
     by_cases heq:RL.key xs[k] = RL.key e
     ·
      have HP:=Lib.hid (Rec.put_eq hlt hall.out HLS.out heq)
      have q1:(xs[k].kind == e.kind) = true:=by injection heq with q1 _; simpa using q1
      have q2:(xs[k].code.toList == e.code.toList) = true:=by injection heq with _ q2; rw [ByteArray.toList_eq,ByteArray.toList_eq]; simpa using q2
      have hxk:=HX.out _ (List.getElem_mem hlt)
      obtain ⟨hx1,hx2⟩:=hxk
      have hlt':(k:Int) < (xs.length:Int):=by omega
      clear heq
      go_wp2
      go_quiet (fail)
      go_wp2
      go_region
      generalize hW:World.setCell (World.drewN wc _) _ _ = W
      have hBW:Blk W w.heap.size 53 #[.int .i64 e.kind,.string e.code,.int .i64 (e.amount+xs[k].amount)]:=by
       rw [← hW]; simpa using (hblk.drewN _).set_ 2 (.int .i64 (e.amount+xs[k].amount))
      have hownW:Own encL 3 53 W (w.heap.size+1) u5 (xs.take k):=by
       rw [← hW]; exact (hown.drewN _).setCell (p:=⟨w.heap.size,2,none⟩) (fun g hg=>by have:=(hown.block_lt hg).1; show g ≠ w.heap.size; omega) _
      have hbelW:Below w.heap.size w W:=by rw [← hW]; exact bel_set (below_drewN hbel _) (Nat.le_refl _) 2 _
      clear hW
      have hsW:=hBW.lt
      have a0:=hBW.cell 0
      have a1:=hBW.cell 1
      have a2:=hBW.cell 2
      simp only [nqg,nqh,nqi] at a0 a1 a2
      have hr:=fun g hg=>(hownW.block_lt (g:=g) hg).1
      have HS:=Lib.hid h
      have hk1:((k:Int)+1)≤(cap:Int):=by omega
      clear c0 c1 c2 e0 e1 e2 f2 hblk hown hbel h hbwr
      go_upto_region 10 with (at_builtin; (refine wpList_append_one _ _ 39 ⟨e.kind,e.code,e.amount+xs[k].amount⟩ _ 32 _ infoL Tryz.underlying39 hownW encL_len (by omega) rfl (encL_one _) (by simp; omega) (by omega) (by omega) (by rfl) (by rfl) (by rfl) (by rfl) (by simp) (by rfl) ?_); intro v2 w6 hown6 hg6)
      have hbelW6:Below w.heap.size w w6:=bel_only hbelW hg6 (fun g hg=>by have:=hr g hg; omega)
      have hs6:w.heap.size+1≤w6.heap.size:=by have:=hg6.size; omega
      have hr6:=fun g hg=>(hown6.block_lt (g:=g) hg).1
      rcases Nat.lt_or_ge (k+1) cap with hcap | hcap
      ·
       have hcut:=(HS.out.below hbelW6).cut (i:=k+1) (cap:=cap) (by omega) (by omega)
       rw [if_neg (by omega)] at hcut
       simp only [Option.map_some,Addr.add,show ¬ (k+1) * 3 = 0 by omega,if_false] at hcut
       go_wp2_with (at_builtin; (refine wpList_append_list (ys:=xs.drop (k+1)) _ _ 39 _ 32 _ infoL Tryz.underlying39 hown6 hcut encL_len (by omega) rfl encL_one (by simp; omega) (by omega) hs6 (by rfl) (by rfl) (by rfl) (by rfl) (by simp) ?_); intro v3 w7 hown7 hg7)
       go_ret
       refine ⟨v3,rfl,?_,bel_only hbelW6 hg7 (fun g hg=>by have:=hr6 g hg; omega)⟩
       rw [HP.out]
       exact hown7.weaken (by omega)
      ·
       have hnil:xs.drop (k+1) = []:=List.drop_eq_nil_of_le (by omega)
       have HN:=Lib.hid hnil
       clear hnil
       obtain rfl:cap = k+1:=by omega
       go_wp2_with (at_builtin; (refine wpList_append_list (B:=0) (ys:=[]) _ _ 39 _ 32 _ infoL Tryz.underlying39 hown6 SliceOf.nil_ encL_len (by omega) rfl encL_one (by simp <;> omega) (by omega) hs6 (by rfl) (by rfl) (by rfl) (by rfl) (by simp <;> omega) ?_); intro v3 w7 hown7 hg7)
       go_ret
       refine ⟨v3,rfl,?_,bel_only hbelW6 hg7 (fun g hg=>by have:=hr6 g hg; omega)⟩
       rw [HP.out,HN.out]
       exact hown7.weaken (by omega)
     ·
      have HP:=Lib.hid (Rec.put_ne hlt hall.out HLS.out heq)
      have hlt':(k:Int) < (xs.length:Int):=by omega
      have HEQ:=Lib.hid heq
      clear heq
      rcases q1:(xs[k].kind == e.kind) with _ | _
      rotate_left
      ·
       have q2:(xs[k].code.toList == e.code.toList) = false:=by
        cases hh:(xs[k].code.toList == e.code.toList)
        ·
         rfl
        ·
         exact absurd (key_eqL (by simpa using q1) hh) HEQ.out
       go_wp2
       go_quiet (fail)
       go_upto_region 10 with (at_builtin; (refine wpList_append_one _ _ 39 e _ 32 _ infoL Tryz.underlying39 (hown.drewN _) encL_len (by omega) rfl (encL_one _) (by simp; omega) (by omega) (by simp; omega) (by rfl) (by rfl) (by rfl) (by rfl) (by simp) (by rfl) ?_); intro v2 w6 hown6 hg6)
       have hr:=fun g hg=>(hown.block_lt (g:=g) hg).1
       have hs6:w.heap.size+1≤w6.heap.size:=by have:=hg6.size; simp at this; omega
       have hbelW6:Below w.heap.size w w6:=bel_only (below_drewN hbel _) hg6 (fun g hg=>by have:=hr g hg; omega)
       have hr6:=fun g hg=>(hown6.block_lt (g:=g) hg).1
       have hcut:=(h.below hbelW6).cut (i:=k) (cap:=cap) (by omega) (by omega)
       rw [if_neg (by omega)] at hcut
       have hadd:(⟨b,off,none⟩ : Addr).add (k * 3) = ⟨b,off+k * 3,none⟩:=by unfold Addr.add; split <;> simp_all
       simp only [Option.map_some,hadd] at hcut
       have hkc:¬ cap = k:=by omega
       clear c0 c1 c2 e0 e1 e2 f2 hblk hown hbel h hadd hbwr
       go_wp2_with (at_builtin; (refine wpList_append_list (ys:=xs.drop k) _ _ 39 _ 32 _ infoL Tryz.underlying39 hown6 hcut encL_len (by omega) rfl encL_one (by simp; omega) (by omega) hs6 (by rfl) (by rfl) (by rfl) (by rfl) (by simp) ?_); intro v3 w7 hown7 hg7)
       go_ret
       refine ⟨v3,rfl,?_,bel_only hbelW6 hg7 (fun g hg=>by have:=hr6 g hg; omega)⟩
       rw [HP.out]
       exact hown7.weaken (by omega)
      ·
       go_wp2
       go_quiet (fail)
       go_upto_region 10 with (at_builtin; (refine wpList_append_one _ _ 39 e _ 32 _ infoL Tryz.underlying39 (hown.drewN _) encL_len (by omega) rfl (encL_one _) (by simp; omega) (by omega) (by simp; omega) (by rfl) (by rfl) (by rfl) (by rfl) (by simp) (by rfl) ?_); intro v2 w6 hown6 hg6)
       have hr:=fun g hg=>(hown.block_lt (g:=g) hg).1
       have hs6:w.heap.size+1≤w6.heap.size:=by have:=hg6.size; simp at this; omega
       have hbelW6:Below w.heap.size w w6:=bel_only (below_drewN hbel _) hg6 (fun g hg=>by have:=hr g hg; omega)
       have hr6:=fun g hg=>(hown6.block_lt (g:=g) hg).1
       have hcut:=(h.below hbelW6).cut (i:=k) (cap:=cap) (by omega) (by omega)
       rw [if_neg (by omega)] at hcut
       have hadd:(⟨b,off,none⟩ : Addr).add (k * 3) = ⟨b,off+k * 3,none⟩:=by unfold Addr.add; split <;> simp_all
       simp only [Option.map_some,hadd] at hcut
       have hkc:¬ cap = k:=by omega
       clear c0 c1 c2 e0 e1 e2 f2 hblk hown hbel h hadd hbwr
       go_wp2_with (at_builtin; (refine wpList_append_list (ys:=xs.drop k) _ _ 39 _ 32 _ infoL Tryz.underlying39 hown6 hcut encL_len (by omega) rfl encL_one (by simp; omega) (by omega) hs6 (by rfl) (by rfl) (by rfl) (by rfl) (by simp) ?_); intro v3 w7 hown7 hg7)
       go_ret
       refine ⟨v3,rfl,?_,bel_only hbelW6 hg7 (fun g hg=>by have:=hr6 g hg; omega)⟩
       rw [HP.out]
       exact hown7.weaken (by omega)
   ·
    rw [dif_neg hlt]
    have HP:=Lib.hid (Rec.put_end (R:=RL) (xs:=xs) (e:=e) (fun j hj=>hall.out j hj (by omega)))
    obtain rfl:k = xs.length:=by omega
    have hg0:decide ((xs.length:Int) < (xs.length:Int)) = false:=by simp
    have hg1:decide (xs.length < xs.length) = false:=by simp
    go_wp2
    go_quiet (fail)
    go_upto_region 10 with (at_builtin; (refine wpList_append_one _ _ 39 e _ 32 _ infoL Tryz.underlying39 (hown.drewN _) encL_len (by omega) rfl (encL_one _) (by simp; omega) (by omega) (by simp; omega) (by rfl) (by rfl) (by rfl) (by rfl) (by simp) (by rfl) ?_); intro v2 w6 hown6 hg6)
    have hr:=fun g hg=>(hown.block_lt (g:=g) hg).1
    have hs6:w.heap.size+1≤w6.heap.size:=by have:=hg6.size; simp at this; omega
    have hbelW6:Below w.heap.size w w6:=bel_only (below_drewN hbel _) hg6 (fun g hg=>by have:=hr g hg; omega)
    have hr6:=fun g hg=>(hown6.block_lt (g:=g) hg).1
    clear e0 e1 e2 f2 hblk hown hbel h hbwr
    go_wp2_with (at_builtin; (refine wpList_append_list (B:=0) (ys:=[]) _ _ 39 _ 32 _ infoL Tryz.underlying39 hown6 SliceOf.nil_ encL_len (by omega) rfl encL_one (by simp <;> omega) (by omega) hs6 (by rfl) (by rfl) (by rfl) (by rfl) (by simp) ?_); intro v3 w7 hown7 hg7)
    all_goals
     go_ret
     refine ⟨v3,rfl,?_,bel_only hbelW6 hg7 (fun g hg=>by have:=hr6 g hg; omega)⟩
     rw [HP.out]
     simpa using hown7.weaken (by omega)
end Go.Proofs.YtjncpgbhokjbfaaGreat
