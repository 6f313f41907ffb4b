/- Joined texts: CaseIn OpenI. Conditions: as stated. -/
import Derived.Deep.Slices
import Derived.Deep.Fields
import Derived.ChangeSame
import Derived.ProofKit
import Derived.OpenShut
import Derived.ShutString
import Derived.ChangeOld
import Derived.Test.YtlhkojcmcmkmaaaGreatJLeaf
import Derived.Test.YtlhkojcmcmkmaaaGreatJCmp0
import Derived.Test.YtlhkojcmcmkmaaaGreatJGenC
namespace Go.Proofs.YtlhkojcmcmkmaaaGreat
open Go.RowKit
theorem city_name : nameB cCity = true:=by decide +kernel
theorem names4' : ∀ c ∈ codes4,nameB c = true:=by decide +kernel
theorem CaseG.in_ {rm:RulesM} {pm:PersonM} {ym:YearM} {kept es : List Elem} (h:CaseG rm pm ym kept es) (first:Bool) : InOk (mkI rm pm ym kept first es):=by
 obtain ⟨k,hk3,hkc,hp,hy⟩:=h.k
 have hper:=hy.per
 have hylen:=hy.len
 refine ⟨h.r.ok,⟨hp.deps.1,by have:=hp.deps.2; show pm.deps≤20; omega,hp.ds.valid,hp.os.ords,?_,?_,?_,?_⟩,⟨?_,?_,?_,?_,hy.inc.1,?_,?_,?_,hy.taken.valid⟩,?_,?_,?_⟩
 ·
  show (pm.es.map EmpC.v).length≤7
  have:=hp.len
  simp; omega
 ·
  intro e he
  obtain ⟨x,hx,rfl⟩:=List.mem_map.1 he
  have:=hp.bas x hx
  show 0≤x.base∧x.base≤_
  omega
 ·
  intro e he
  obtain ⟨x,hx,rfl⟩:=List.mem_map.1 he
  have:=hp.lens x hx
  show x.l.length≤53
  omega
 ·
  intro e he
  obtain ⟨x,hx,rfl⟩:=List.mem_map.1 he
  intro y hy'
  have:=hp.ear x hx y hy'
  omega
 ·
  show 0≤ym.periods
  omega
 ·
  show ym.periods≤53
  omega
 ·
  show (ym.ins.length:Int) = ym.periods
  omega
 ·
  intro x hx
  have:=hy.ins x hx
  omega
 ·
  show ym.income≤ym.periods * 1000000000
  have:=hy.inc.2
  omega
 ·
  show -(ym.periods * 1000000000)≤ym.withheld
  have:=hy.wh.1
  omega
 ·
  show ym.withheld≤ym.periods * 1000000000
  have:=hy.wh.2
  omega
 ·
  rcases h.kept with e | ⟨r,h0,h1,e⟩
  ·
   show KeptOk kept
   rw [e]
   exact ⟨rfl,by simp,by simp⟩
  ·
   show KeptOk kept
   rw [e]
   refine ⟨recB_iff.2 ⟨by simp,fun x hx=>?_,List.pairwise_singleton _ _⟩,by simp,fun x hx=>?_⟩
   ·
    rw [List.mem_singleton] at hx; subst hx
    exact ⟨city_name,h0,by show r≤_; omega⟩
   ·
    rw [List.mem_singleton] at hx; subst hx
    show r≤_
    omega
 ·
  intro e he
  obtain ⟨x,hx,rfl⟩:=List.mem_map.1 he
  have:=hp.lens x hx
  show (x.l.length:Int) = ym.periods
  omega
 ·
  intro x hx
  obtain ⟨⟨y,hy1,hy2⟩,_⟩:=h.e.1 x hx
  rw [hy2]
  exact name_max (names4' _ (h.r.ws.ok y hy1).code)
end Go.Proofs.YtlhkojcmcmkmaaaGreat
namespace Go.Proofs.YtlhkojcmcmkmaaaGreat
open Go.ChangeShapes Go.WideShapes Go.ChangeAt Go.RowKit Go.Deep
section
variable {H:Type} {enc:TypeId × Value→H} {P:Program} {w:World} {base:Nat} {spare:Nat→Bool} {held:Bool}
end
theorem list_of {α:Type} {encA:α→List Value} {k:Nat} {w:World} (hk : ∀ x,(encA x).length = k) (hk0:0 < k) (Q:α→Prop) (a:Addr) (len:Nat)
  (h:∀ i,i < len→∃ x,Q x∧∀ j v,(encA x)[j]? = some v→w.cell? (a.add (i * k+j)) = some v) :
  ∃ xs:List α,xs.length = len∧(∀ x ∈ xs,Q x)∧SliceOf encA k w w.heap.size (some a) xs:=by
 have h':∃ xs:List α,xs.length = len∧(∀ x ∈ xs,Q x)∧∀ i x,xs[i]? = some x→∀ j v,(encA x)[j]? = some v→w.cell? (a.add (i * k+j)) = some v:=by
  induction len with
  | zero=>exact ⟨[],rfl,by simp,by simp⟩
  | succ n ih =>
   obtain ⟨xs,h1,h2,h3⟩:=ih (fun i hi=>h i (by omega))
   obtain ⟨x,hx1,hx2⟩:=h n (by omega)
   refine ⟨xs++[x],by simp [h1],fun y hy=>?_,fun i y hi j v hj=>?_⟩
   ·
    rcases List.mem_append.1 hy with h4 | h4
    ·
     exact h2 y h4
    ·
     simp at h4; subst h4; exact hx1
   ·
    rcases Nat.lt_or_ge i xs.length with h4 | h4
    ·
     rw [List.getElem?_append_left h4] at hi; exact h3 i y hi j v hj
    ·
     rw [List.getElem?_append_right h4] at hi
     have h5:i - xs.length = 0:=by
      have:=(List.getElem?_eq_some_iff.1 hi).1
      simp at this; exact this
     rw [h5] at hi
     simp at hi
     subst hi
     obtain rfl:i = n:=by omega
     exact hx2 j v hj
 obtain ⟨xs,h1,h2,h3⟩:=h'
 refine ⟨xs,h1,h2,fun hne=>?_⟩
 obtain ⟨b,off,spot⟩:=a
 have hpos:0 < xs.length:=List.length_pos_iff.2 hne
 have hx0:=List.getElem?_eq_getElem hpos
 have hv0 : (encA xs[0])[0]? = some ((encA xs[0])[0]'(by rw [hk]; exact hk0)) := List.getElem?_eq_getElem _
 have hc0:=h3 0 _ hx0 0 _ hv0
 simp only [Nat.zero_mul,Nat.zero_add,Addr.add,if_true] at hc0
 have hspot:spot = none:=by simpa using World.cell?_spot hc0
 subst hspot
 have hb:b < w.heap.size:=World.block_lt_of_cell? w ⟨b,off,none⟩ hc0
 refine ⟨b,off,rfl,hb,fun i x hi j v hj=>?_⟩
 have:=h3 i x hi j v hj
 have hadd:(⟨b,off,none⟩ : Addr).add (i * k+j) = ⟨b,off+i * k+j,none⟩:=by
  unfold Addr.add
  split
  ·
   rename_i h0
   have h1:i * k = 0:=by omega
   have h2:j = 0:=by omega
   subst h2; simp
  ·
   simp [Nat.add_assoc]
 rw [hadd] at this
 exact this
theorem wf_I64 {n:Int} (h : (Lit.int .i64 n).wf = true) : I64 n:=by
 simp [Lit.wf,IntKind.min,IntKind.max,IntKind.signed,IntKind.bits] at h
 exact ⟨by omega,by omega⟩
theorem openI {H:Type} {enc:TypeId × Value→H} {W:World} {a:Option Addr} {len cap : Nat} {d:DataW H} {p:List MemPlace} (h:DataW.Trod enc Tryz.prog W 0 (fun _=>true) true 34 (.slice a len cap) d p) :
  ∃ xs:List Int,xs.length = len∧SliceOf encI 1 W W.heap.size a xs∧(∀ x ∈ xs,I64 x)∧len≤cap∧cap≤maxLen:=by
 obtain ⟨fuel,hf⟩:=h
 rcases open_ints Tryz.underlying34 Tryz.underlying3 (by kernel_rfl) hf with ⟨hcs,_⟩ | ⟨x,l,c,zs,hcs,_,hl,hm,hz,_,hcell,hwz⟩
 ·
  simp [Value.cells] at hcs
  obtain ⟨rfl,rfl,rfl⟩:=hcs
  exact ⟨[],rfl,SliceOf.nil_,by simp,by omega,by unfold maxLen; omega⟩
 ·
  simp [Value.cells] at hcs
  obtain ⟨rfl,rfl,rfl⟩:=hcs
  have hz':zs.length = cap:=by simpa using hz
  have hh:∀ i,i < len→∃ y:Int,I64 y∧∀ j v,(encI y)[j]? = some v→W.cell? (x.add (i * 1+j)) = some v:=by
   intro i hi'
   refine ⟨zs.getD i 0,?_,fun j v hj=>?_⟩
   ·
    apply wf_I64
    apply hwz
    rw [List.getD_eq_getElem?_getD,List.getElem?_eq_getElem (by omega)]
    exact List.getElem_mem _
   ·
    match j,hj with
    | 0,hj =>
     simp [encI] at hj
     subst hj
     have:=hcell i (by omega)
     simpa using this
    | (n+1),hj=>simp [encI] at hj
  obtain ⟨xs,h1,h2,h3⟩:=list_of (k:=1) (encA:=encI) (fun _=>rfl) Nat.one_pos _ x len hh
  exact ⟨xs,h1,h3,h2,hl,hm⟩
end Go.Proofs.YtlhkojcmcmkmaaaGreat
