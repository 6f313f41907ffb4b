/- Joined texts: KeyK. Conditions: as stated. -/
import Derived.DeepKeys4
import Derived.Test.YtopekilofdadnaaGreatDoorJData
import Derived.Test.YtopekilofdadnaaGreatDoorJMapV
namespace Go.Proofs.YtopekilofdadnaaGreatDoor
open Go.RowKit Go.Maps Go.WideMaps Go.WideElems Go.ChangeMaps
theorem klI {P:Program} {d:Nat} {t:TypeId} {a:Value} {la:List Lit} (ht:P.underlying t = some (.int .i64)) (h:P.keyLits (d+1) t [a] = some la) : ∃ k : Int,a = .int .i64 k∧(Lit.int .i64 k).wf = true∧la = [.int .i64 k]:=by
 unfold Program.keyLits at h
 simp only [ht] at h
 cases a <;> simp only [reduceCtorEq] at h
 split at h
 ·
  rename_i q n hq
  obtain ⟨rfl,hw⟩:=hq
  injection h with h
  exact ⟨_,rfl,hw,h.symm⟩
 ·
  cases h
def litP (a b : Int) : Lit:=.string (keyBytes [.int .i64 a,.int .i64 b])
theorem lawK : KeyLaw Tryz.prog 39:=deep_law_laid (m:=3) (by kernel_rfl) (by omega) (of_decide_eq_true (by kernel_rfl)) (by kernel_rfl) (by kernel_rfl)
theorem ofK (a b : Int) (h1 : (Lit.int .i64 a).wf = true) (h2 : (Lit.int .i64 b).wf = true) : keyOf Tryz.prog 39 (.agg #[.int .i64 a,.int .i64 b]) = some (litP a b):=by
 have c1:Tryz.prog.cellsOf 39 = 2:=by kernel_rfl
 have c2:Tryz.prog.cellsOf 3 = 1:=by kernel_rfl
 have kt:Tryz.prog.keyType 39 = true:=by kernel_rfl
 have hl:∀ d,Tryz.prog.keyLits (d+1+1) 39 [.int .i64 a,.int .i64 b] = some [.int .i64 a,.int .i64 b]:=fun d=>by
  simp [Program.keyLits,Tryz.underlying39,Tryz.underlying3,c1,c2,h1,h2]
 have hts:1≤Tryz.prog.types.size:=of_decide_eq_true (by kernel_rfl)
 unfold keyOf
 simp only [Tryz.underlying39,kt,Bool.true_and,Value.formed,c1]
 generalize Tryz.prog.types.size = ts at hts ⊢
 obtain ⟨d,rfl⟩ : ∃ d,ts = d+1:=⟨ts - 1,by omega⟩
 simp only [Value.cells,hl,litP]
 rfl
set_option maxRecDepth 100000 in
theorem invK {v:Value} {l:Lit} (h:keyOf Tryz.prog 39 v = some l) : ∃ a b,(Lit.int .i64 a).wf = true∧(Lit.int .i64 b).wf = true∧v = .agg #[.int .i64 a,.int .i64 b]∧l = litP a b:=by
 obtain ⟨xs,L,rfl,hL,rfl⟩:=keyOf_top (by kernel_rfl) h
 have c1:Tryz.prog.cellsOf 39 = 2:=by kernel_rfl
 have c2:Tryz.prog.cellsOf 3 = 1:=by kernel_rfl
 have hts:1≤Tryz.prog.types.size:=of_decide_eq_true (by kernel_rfl)
 generalize Tryz.prog.types.size = ts at hts hL
 obtain ⟨d,rfl⟩ : ∃ d,ts = d+1:=⟨ts - 1,by omega⟩
 unfold Program.keyLits at hL
 simp only [Tryz.underlying39,c1] at hL
 split at hL
 ·
  rename_i hlen
  obtain ⟨hlen,_⟩:=hlen
  generalize hys:xs.toList = ys at hL hlen
  obtain ⟨a,b,rfl⟩ : ∃ a b,ys = [a,b]:=by
   rcases ys with _ | ⟨a,_ | ⟨b,_ | ⟨c,ys⟩⟩⟩
   ·
    simp at hlen
   ·
    simp at hlen
   ·
    exact ⟨a,b,rfl⟩
   ·
    simp at hlen
  have hxs:xs = #[a,b]:=by rw [← hys]
  simp [c2] at hL
  simp only [Function.comp,Option.map_eq_some_iff,Option.bind_eq_some_iff,Option.some.injEq] at hL
  obtain ⟨la,hla,q,⟨lb,⟨x,hlb,rfl⟩,rfl⟩,rfl⟩:=hL
  obtain ⟨k1,rfl,hw1,rfl⟩:=klI Tryz.underlying3 hla
  obtain ⟨k2,rfl,hw2,rfl⟩:=klI Tryz.underlying3 hlb
  exact ⟨k1,k2,hw1,hw2,by rw [hxs],rfl⟩
 ·
  cases hL
theorem lawS : KeyLaw Tryz.prog 219:=deep_law_laid (m:=3) (by kernel_rfl) (by omega) (of_decide_eq_true (by kernel_rfl)) (by kernel_rfl) (by kernel_rfl)
theorem ofS (a b : Int) (h1 : (Lit.int .i64 a).wf = true) (h2 : (Lit.int .i64 b).wf = true) : keyOf Tryz.prog 219 (.agg #[.int .i64 a,.int .i64 b]) = some (litP a b):=by
 have c1:Tryz.prog.cellsOf 219 = 2:=by kernel_rfl
 have c2:Tryz.prog.cellsOf 3 = 1:=by kernel_rfl
 have kt:Tryz.prog.keyType 219 = true:=by kernel_rfl
 have hl:∀ d,Tryz.prog.keyLits (d+1+1) 219 [.int .i64 a,.int .i64 b] = some [.int .i64 a,.int .i64 b]:=fun d=>by
  simp [Program.keyLits,Tryz.underlying219,Tryz.underlying3,c1,c2,h1,h2]
 have hts:1≤Tryz.prog.types.size:=of_decide_eq_true (by kernel_rfl)
 unfold keyOf
 simp only [Tryz.underlying219,kt,Bool.true_and,Value.formed,c1]
 generalize Tryz.prog.types.size = ts at hts ⊢
 obtain ⟨d,rfl⟩ : ∃ d,ts = d+1:=⟨ts - 1,by omega⟩
 simp only [Value.cells,hl,litP]
 rfl
set_option maxRecDepth 100000 in
theorem invS {v:Value} {l:Lit} (h:keyOf Tryz.prog 219 v = some l) : ∃ a b,(Lit.int .i64 a).wf = true∧(Lit.int .i64 b).wf = true∧v = .agg #[.int .i64 a,.int .i64 b]∧l = litP a b:=by
 obtain ⟨xs,L,rfl,hL,rfl⟩:=keyOf_top (by kernel_rfl) h
 have c1:Tryz.prog.cellsOf 219 = 2:=by kernel_rfl
 have c2:Tryz.prog.cellsOf 3 = 1:=by kernel_rfl
 have hts:1≤Tryz.prog.types.size:=of_decide_eq_true (by kernel_rfl)
 generalize Tryz.prog.types.size = ts at hts hL
 obtain ⟨d,rfl⟩ : ∃ d,ts = d+1:=⟨ts - 1,by omega⟩
 unfold Program.keyLits at hL
 simp only [Tryz.underlying219,c1] at hL
 split at hL
 ·
  rename_i hlen
  obtain ⟨hlen,_⟩:=hlen
  generalize hys:xs.toList = ys at hL hlen
  obtain ⟨a,b,rfl⟩ : ∃ a b,ys = [a,b]:=by
   rcases ys with _ | ⟨a,_ | ⟨b,_ | ⟨c,ys⟩⟩⟩
   ·
    simp at hlen
   ·
    simp at hlen
   ·
    exact ⟨a,b,rfl⟩
   ·
    simp at hlen
  have hxs:xs = #[a,b]:=by rw [← hys]
  simp [c2] at hL
  simp only [Function.comp,Option.map_eq_some_iff,Option.bind_eq_some_iff,Option.some.injEq] at hL
  obtain ⟨la,hla,q,⟨lb,⟨x,hlb,rfl⟩,rfl⟩,rfl⟩:=hL
  obtain ⟨k1,rfl,hw1,rfl⟩:=klI Tryz.underlying3 hla
  obtain ⟨k2,rfl,hw2,rfl⟩:=klI Tryz.underlying3 hlb
  exact ⟨k1,k2,hw1,hw2,by rw [hxs],rfl⟩
 ·
  cases hL
set_option maxRecDepth 100000 in
def keyK : KeyE Tryz.prog 39 KeyT where
 val:=fun k=>.agg #[.int .i64 k.term,.int .i64 k.seq]
 lit:=fun k=>litP k.term k.seq
 good:=fun k=>(Lit.int .i64 k.term).wf = true∧(Lit.int .i64 k.seq).wf = true
 law:=Keyed.of_law lawK
 of_:=fun k h=>ofK _ _ h.1 h.2
 inj:=fun x y hx hy h=>by
  have h1:=ofK _ _ hx.1 hx.2
  have h2:=ofK _ _ hy.1 hy.2
  rw [h] at h1
  have h3:=lawK.inj h1 h2
  injection h3 with h3
  simp at h3
  obtain ⟨a,b⟩:=x
  obtain ⟨c,d⟩:=y
  simp only at h3
  rw [h3.1,h3.2]
 inv:=fun v l h=>by
  obtain ⟨a,b,h1,h2,h3,h4⟩:=invK h
  exact ⟨⟨a,b⟩,⟨h1,h2⟩,h3,h4⟩
set_option maxRecDepth 100000 in
def keySh : KeyE Tryz.prog 219 (Int × Int) where
 val:=fun k=>.agg #[.int .i64 k.1,.int .i64 k.2]
 lit:=fun k=>litP k.1 k.2
 good:=fun k=>(Lit.int .i64 k.1).wf = true∧(Lit.int .i64 k.2).wf = true
 law:=Keyed.of_law lawS
 of_:=fun k h=>ofS _ _ h.1 h.2
 inj:=fun x y hx hy h=>by
  have h1:=ofS _ _ hx.1 hx.2
  have h2:=ofS _ _ hy.1 hy.2
  rw [h] at h1
  have h3:=lawS.inj h1 h2
  injection h3 with h3
  simp at h3
  exact Prod.ext h3.1 h3.2
 inv:=fun v l h=>by
  obtain ⟨a,b,h1,h2,h3,h4⟩:=invS h
  exact ⟨(a,b),⟨h1,h2⟩,h3,h4⟩
end Go.Proofs.YtopekilofdadnaaGreatDoor
