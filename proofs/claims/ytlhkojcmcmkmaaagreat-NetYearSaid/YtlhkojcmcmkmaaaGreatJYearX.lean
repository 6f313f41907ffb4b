/- What the year's text needs beyond the joined texts. Conditions: as stated. -/
import Derived.Test.YtlhkojcmcmkmaaaGreatJCmp0
import Derived.Test.YtlhkojcmcmkmaaaGreatJP32m
import Derived.Test.YtlhkojcmcmkmaaaGreatJGenR
import Derived.Test.YtlhkojcmcmkmaaaGreatJCaseIn
import Derived.Test.YtlhkojcmcmkmaaaGreatJPlain2
import Derived.Test.YtlhkojcmcmkmaaaGreatJR30b
namespace Go.Proofs.YtlhkojcmcmkmaaaGreat
open Go.RowKit
theorem sorted4 : codes4.Pairwise (fun a b=>Op.bytesLess a.toList b.toList = true):=by decide +kernel
theorem GenW.valid {ws:List WageT} (h:GenW 4 ws) : validB ws = true:=by
 have hp:(ws.map (·.code)).Pairwise (fun a b=>Op.bytesLess a.toList b.toList = true):=List.Pairwise.sublist (by simpa [codes4] using h.sub) sorted4
 rw [List.pairwise_map] at hp
 refine validB_yes (by have:=h.len; omega) fun i hi=>?_
 have hx:=h.ok _ (List.getElem_mem hi)
 rw [okAt_eq ws i ws[i] true ?_]
 ·
  have h1:=names4 _ hx.code
  have h2:=hx.lo
  have h3:=hx.hi
  refine decide_eq_true ⟨h1,.inr rfl,?_,?_,by omega,by omega⟩
  ·
   rcases hx.kind with h | h
   ·
    exact .inl h
   ·
    exact .inr h.1
  ·
   rintro ⟨h4,h5⟩
   rcases hx.kind with h | h
   ·
    omega
   ·
    rw [h.2] at h5; cases h5
 ·
  rcases Nat.eq_zero_or_pos i with h0 | h0
  ·
   exact .inl h0
  ·
   right
   refine ⟨ws[i - 1]'(by omega), List.getElem?_eq_getElem (by omega), ?_⟩
   rw [List.pairwise_iff_getElem] at hp
   exact (hp (i - 1) i (by omega) hi (by omega)).symm
theorem condS_bdd (p:ByteArray→Bool) (l:List Elem) (B:Int) (hB:0≤B) (h : ∀ x ∈ l,-B≤x.amount∧x.amount≤B) : -(l.length * B : Int)≤condS p l∧condS p l≤l.length * B:=by
 induction l with
 | nil=>simp [condS]
 | cons a l ih =>
  have h1:=ih (fun x hx=>h x (by simp [hx]))
  have h2:=h a (by simp)
  simp only [condS,List.length_cons]
  have e9:((l.length+1:Nat) : Int) * B = (l.length:Int) * B+B:=by rw [Int.natCast_add,Int.add_mul]; omega
  rw [e9]
  split <;> omega
theorem GenE.pre {ws:List WageT} {es:List Elem} (h:GenW 4 ws) (he:GenE ws es) (hl:es.length≤100) : preErr es = 0:=by
 have hb:∀ x ∈ es,-600000≤x.amount∧x.amount≤600000:=fun x hx=>by have:=(he x hx).2; omega
 refine preErr_ok (by omega) (he.name h) (fun x hx=>by have:=hb x hx; exact amtB_mk (by omega) (by omega)) fun c=>?_
 have:=totE_bdd es c 600000 (by omega) hb
 exact amtB_mk (by omega) (by omega)
theorem findW_isSome {ws:List WageT} {y:WageT} (hy:y ∈ ws) : (findW ws y.code).isNone = false:=by
 cases hf:findW ws y.code with
 | some z=>rfl
 | none =>
  unfold findW at hf
  rw [List.find?_eq_none] at hf
  exact absurd (by simp [hasC]) (hf y hy)
theorem GenE.ofErr {ws:List WageT} {es:List Elem} (h:GenW 4 ws) (he:GenE ws es) (hl:es.length≤100) : ofErr ws es es = 0:=by
 have hb:∀ x ∈ es,-600000≤x.amount∧x.amount≤600000:=fun x hx=>by have:=(he x hx).2; omega
 have hm:missing ws es = false:=by
  rw [missing,List.any_eq_false]
  intro x hx
  obtain ⟨y,hy,e⟩:=(he x hx).1
  rw [e,findW_isSome hy]; simp
 have ha:amtsB (sumB ws es) = true:=by
  rw [sumB_eq]
  have hc:∀ p,amtB (condS p es) = true:=fun p=>by
   have:=condS_bdd p es 600000 (by omega) hb
   exact amtB_mk (by omega) (by omega)
  simp only [amtsB,hc,Bool.and_self]
 simp only [Go.Proofs.YtlhkojcmcmkmaaaGreat.ofErr,h.valid,he.pre h hl,hm,ha,Bool.true_eq_false,Bool.false_eq_true,if_false,ne_eq,not_true_eq_false]
set_option maxHeartbeats 400000 in
theorem amount26_any (n:Int) (w:World) :
  Calls Tryz.prog 30 #[.int .i64 n] w fun e w'=>e = .returned (.bool (amtB n))∧w = w':=by
 by_cases h1 : -1000000000≤n <;> by_cases h2:n≤1000000000
 all_goals
  have hb:amtB n = (decide (-1000000000≤n) && decide (n≤1000000000)):=by simp [amtB]
  have HB:=Lib.hid hb; clear hb
  go_enter Tryz.func30,Tryz.ntmps30
  go_wp2
  go_ret
  exact ⟨by rw [HB.out]; simp [h1,h2],rfl⟩
section
variable {P:Program} {ops:Array Oper} {md:Region.Mode} {C:World→Prop} {s:Nat}
theorem M5.mix_three {Q:Act→World→Prop} {n:Nat} {listed:Array Bool} {a:Act} {w:World} (i j l : Nat) (hr:Region.ready md ops listed = [i,j,l]) (hne : [i,j,l].contains s = false)
  (h:∀ w',C w'→Below w.heap.size w w'→M3.stepM P ops C i (fun a1 w1=>C w1∧M5.wpMix P md ops C s Q n (listed.setIfInBounds i true) a1 w1) a w'∧M3.stepM P ops C j (fun a1 w1=>C w1∧M5.wpMix P md ops C s Q n (listed.setIfInBounds j true) a1 w1) a w'∧M3.stepM P ops C l (fun a1 w1=>C w1∧M5.wpMix P md ops C s Q n (listed.setIfInBounds l true) a1 w1) a w') : M5.wpMix P md ops C s Q (n+1) listed a w :=
 M5.mix_many [i,j,l] hr hne rfl fun w' c b k hk=>by
  simp only [nqj,nqk,or_false] at hk
  rcases hk with rfl | rfl | rfl
  ·
   exact (h w' c b).1
  ·
   exact (h w' c b).2.1
  ·
   exact (h w' c b).2.2
theorem M5.share2 {A B : Type} {f:A→B→Act} {Q:Act→World→Prop} {n n0 : Nat} {listed l0 : Array Bool} {a0:Act} {w0:World} {H:A→B→World→Prop}
  (main:(∀ x0 x1 w l,l = listed→H x0 x1 w→M5.wpMix P md ops C s Q n l (f x0 x1) w)→M5.wpMix P md ops C s Q n0 l0 a0 w0) (T:∀ x0 x1 w,H x0 x1 w→M5.wpMix P md ops C s Q n listed (f x0 x1) w) : M5.wpMix P md ops C s Q n0 l0 a0 w0:=main fun _ _ _ _ e h=>e ▸ T _ _ _ h
theorem M5.share3 {A B D : Type} {f:A→B→D→Act} {Q:Act→World→Prop} {n n0 : Nat} {listed l0 : Array Bool} {a0:Act} {w0:World} {H:A→B→D→World→Prop}
  (main:(∀ x0 x1 x2 w l,l = listed→H x0 x1 x2 w→M5.wpMix P md ops C s Q n l (f x0 x1 x2) w)→M5.wpMix P md ops C s Q n0 l0 a0 w0) (T:∀ x0 x1 x2 w,H x0 x1 x2 w→M5.wpMix P md ops C s Q n listed (f x0 x1 x2) w) : M5.wpMix P md ops C s Q n0 l0 a0 w0:=main fun _ _ _ _ _ e h=>e ▸ T _ _ _ _ h
theorem M5.share4 {A B D E : Type} {f:A→B→D→E→Act} {Q:Act→World→Prop} {n n0 : Nat} {listed l0 : Array Bool} {a0:Act} {w0:World} {H:A→B→D→E→World→Prop}
  (main:(∀ x0 x1 x2 x3 w l,l = listed→H x0 x1 x2 x3 w→M5.wpMix P md ops C s Q n l (f x0 x1 x2 x3) w)→M5.wpMix P md ops C s Q n0 l0 a0 w0) (T:∀ x0 x1 x2 x3 w,H x0 x1 x2 x3 w→M5.wpMix P md ops C s Q n listed (f x0 x1 x2 x3) w) : M5.wpMix P md ops C s Q n0 l0 a0 w0:=main fun _ _ _ _ _ _ e h=>e ▸ T _ _ _ _ _ h
end
end Go.Proofs.YtlhkojcmcmkmaaaGreat
