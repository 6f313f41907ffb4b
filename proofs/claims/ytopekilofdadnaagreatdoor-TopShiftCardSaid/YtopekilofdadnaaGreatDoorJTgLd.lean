/- Joined texts: TgLd. Conditions: as stated. -/
import Derived.Deep.Slices
import Derived.ChangeSame
import Derived.ProofKit
import Derived.LaidMore
import Derived.OpenShut
import Derived.Stop.Joined
import Derived.Test.YtopekilofdadnaaGreatDoorRows
import Derived.Test.YtopekilofdadnaaGreatDoorJLeaf
import Derived.Test.YtopekilofdadnaaGreatDoorJTgE
namespace Go.Proofs.YtopekilofdadnaaGreatDoor
open Go.ChangeShapes Go.WideShapes Go.ChangeAt Go.RowKit
theorem gLen : Tryz.prog.globalNamed "payroll/calendar.lengths" = some 0 := by kernel_rfl
theorem tLen : (Tryz.prog.globals[0]?).map (·.type) = some 314:=by kernel_rfl
theorem doorLens (os : Os) (args : Array Value) : laidMetH Tryz.prog [("payroll/calendar.lengths", Rows.laid_payroll_calendar_lengths)] ((World.doorLaid Tryz.prog 14 os).forCall (fun _ _ => 0) ⟨#[], args, []⟩).memory :=
 laidMetH_of_parts3 (fuel:=8) (laidMet_of_run' 8 (by kernel_rfl) (by kernel_rfl)) (by kernel_rfl) (by kernel_rfl)
set_option maxRecDepth 100000 in
theorem lens_of_laid {W : World} (h : laidMetH Tryz.prog [("payroll/calendar.lengths", Rows.laid_payroll_calendar_lengths)] W) : Lens W := by
 rw [MakeChecks.laidMetH_plain _ _ _ (by kernel_rfl)] at h
 obtain ⟨ps,⟨g,t,cs,fuel,p,q,hg,ht,hv,hd,_,_⟩,_⟩:=h
 obtain rfl:=Option.some.inj (gLen.symm.trans hg)
 obtain rfl:=Option.some.inj (tLen.symm.trans ht)
 obtain ⟨xs,m,rfl,hx,hlen,hn,hel⟩:=DataW.trod_array Tryz.underlying314 hd
 have c3:Tryz.prog.cellsOf 3 = 1:=by kernel_rfl
 simp only [Prod.mk.injEq] at hx
 have hmap:xs.map (·.1) = lensL.map (fun n=>(DataW.lit (.int .i64 n) : DataW Unit)) :=
  (DataW.agg.inj (show DataW.agg (lensL.map fun n=>(DataW.lit (.int .i64 n) : DataW Unit)) = DataW.agg (xs.map (·.1)) from hx.1)).symm
 have key:∀ (i:Nat) (n:Int),lensL[i]? = some n→cs[i]? = some (Value.int .i64 n):=fun i n hi=>by
  have hi12:i < 12:=(List.getElem?_eq_some_iff.1 hi).1
  have h0:=hel i hi12
  rw [c3,Nat.mul_one] at h0
  have hxi:(xs[i]?).map (·.1) = some (DataW.lit (.int .i64 n) : DataW Unit):=by rw [← List.getElem?_map,hmap,List.getElem?_map,hi]; rfl
  obtain ⟨x,hx1,hx2⟩:=Option.map_eq_some_iff.1 hxi
  rw [hx1] at h0
  obtain ⟨k,e1,e2,_⟩:=DataW.trod_int Tryz.underlying3 h0
  have hk:k = n:=by
   rw [e2] at hx2
   simpa using hx2
  subst hk
  have h3:((cs.toList.drop i).take 1)[0]? = some (.int .i64 k):=by rw [e1]; rfl
  rw [List.getElem?_take,if_pos (by omega),List.getElem?_drop,Nat.add_zero] at h3
  rw [← Array.getElem?_toList]
  exact h3
 have hc:∀ i n,lensL[i]? = some n→W.cell? ⟨0,i,none⟩ = some (.int .i64 n):=fun i n hi=>by
  rw [World.var?_cell hg hv i]
  exact key i n hi
 refine ⟨?_,hc⟩
 rcases Nat.eq_zero_or_pos W.heap.size with h0 | h0
 ·
  exfalso
  have h1:=hc 0 31 rfl
  simp [World.cell?,Array.getElem?_eq_none (show W.heap.size≤0 by omega)] at h1
 ·
  exact h0
theorem list_of {α:Type} {encA:α→List Value} {k:Nat} {w:World} (hk : ∀ x,(encA x).length = k) (hk0:0 < k) (Q:α→Prop) (a:Addr) (len:Nat)
  (h:∀ i,i < len→∃ x,Q x∧∀ j v,(encA x)[j]? = some v→w.cell? (a.add (i * k+j)) = some v) :
  ∃ xs:List α,xs.length = len∧(∀ x ∈ xs,Q x)∧SliceOf encA k w w.heap.size (some a) xs:=by
 have h':∃ xs:List α,xs.length = len∧(∀ x ∈ xs,Q x)∧∀ i x,xs[i]? = some x→∀ j v,(encA x)[j]? = some v→w.cell? (a.add (i * k+j)) = some v:=by
  induction len with
  | zero=>exact ⟨[],rfl,by simp,by simp⟩
  | succ n ih =>
   obtain ⟨xs,h1,h2,h3⟩:=ih (fun i hi=>h i (by omega))
   obtain ⟨x,hx1,hx2⟩:=h n (by omega)
   refine ⟨xs++[x],by simp [h1],fun y hy=>?_,fun i y hi j v hj=>?_⟩
   ·
    rcases List.mem_append.1 hy with h4 | h4
    ·
     exact h2 y h4
    ·
     simp at h4; subst h4; exact hx1
   ·
    rcases Nat.lt_or_ge i xs.length with h4 | h4
    ·
     rw [List.getElem?_append_left h4] at hi; exact h3 i y hi j v hj
    ·
     rw [List.getElem?_append_right h4] at hi
     have h5:i - xs.length = 0:=by
      have:=(List.getElem?_eq_some_iff.1 hi).1
      simp at this; exact this
     rw [h5] at hi
     simp at hi
     subst hi
     obtain rfl:i = n:=by omega
     exact hx2 j v hj
 obtain ⟨xs,h1,h2,h3⟩:=h'
 refine ⟨xs,h1,h2,fun hne=>?_⟩
 obtain ⟨b,off,spot⟩:=a
 have hpos:0 < xs.length:=List.length_pos_iff.2 hne
 have hx0:=List.getElem?_eq_getElem hpos
 have hv0 : (encA xs[0])[0]? = some ((encA xs[0])[0]'(by rw [hk]; exact hk0)) := List.getElem?_eq_getElem _
 have hc0:=h3 0 _ hx0 0 _ hv0
 simp only [Nat.zero_mul,Nat.zero_add,Addr.add,if_true] at hc0
 have hspot:spot = none:=by simpa using World.cell?_spot hc0
 subst hspot
 have hb:b < w.heap.size:=World.block_lt_of_cell? w ⟨b,off,none⟩ hc0
 refine ⟨b,off,rfl,hb,fun i x hi j v hj=>?_⟩
 have:=h3 i x hi j v hj
 have hadd:(⟨b,off,none⟩ : Addr).add (i * k+j) = ⟨b,off+i * k+j,none⟩:=by
  unfold Addr.add
  split
  ·
   rename_i h0
   have h1:i * k = 0:=by omega
   have h2:j = 0:=by omega
   subst h2; simp
  ·
   simp [Nat.add_assoc]
 rw [hadd] at this
 exact this
theorem wf_I64 {n:Int} (h : (Lit.int .i64 n).wf = true) : I64 n:=by
 simp [Lit.wf,IntKind.min,IntKind.max,IntKind.signed,IntKind.bits] at h
 exact ⟨by omega,by omega⟩
theorem openI {H:Type} {enc:TypeId × Value→H} {W:World} {a:Option Addr} {len cap : Nat} {d:DataW H} {p:List MemPlace} (h:DataW.Trod enc Tryz.prog W 0 (fun _=>true) true 22 (.slice a len cap) d p) :
  ∃ xs:List Int,xs.length = len∧SliceOf encI 1 W W.heap.size a xs∧(∀ x ∈ xs,I64 x)∧len≤cap∧cap≤maxLen:=by
 obtain ⟨fuel,hf⟩:=h
 rcases open_ints Tryz.underlying22 Tryz.underlying3 (by kernel_rfl) hf with ⟨hcs,_⟩ | ⟨x,l,c,zs,hcs,_,hl,hm,hz,_,hcell,hwz⟩
 ·
  simp [Value.cells] at hcs
  obtain ⟨rfl,rfl,rfl⟩:=hcs
  exact ⟨[],rfl,SliceOf.nil_,by simp,by omega,by unfold maxLen; omega⟩
 ·
  simp [Value.cells] at hcs
  obtain ⟨rfl,rfl,rfl⟩:=hcs
  have hz':zs.length = cap:=by simpa using hz
  have hh:∀ i,i < len→∃ y:Int,I64 y∧∀ j v,(encI y)[j]? = some v→W.cell? (x.add (i * 1+j)) = some v:=by
   intro i hi'
   refine ⟨zs.getD i 0,?_,fun j v hj=>?_⟩
   ·
    apply wf_I64
    apply hwz
    rw [List.getD_eq_getElem?_getD,List.getElem?_eq_getElem (by omega)]
    exact List.getElem_mem _
   ·
    match j,hj with
    | 0,hj =>
     simp [encI] at hj
     subst hj
     have:=hcell i (by omega)
     simpa using this
    | (n+1),hj=>simp [encI] at hj
  obtain ⟨xs,h1,h2,h3⟩:=list_of (k:=1) (encA:=encI) (fun _=>rfl) Nat.one_pos _ x len hh
  exact ⟨xs,h1,h3,h2,hl,hm⟩
end Go.Proofs.YtopekilofdadnaaGreatDoor
