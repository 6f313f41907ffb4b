/- Joined texts: Ex33 OpenI. Conditions: as stated. -/
import Derived.Deep.Slices
import Derived.Deep.Fields
import Derived.ChangeSame
import Derived.ProofKit
import Derived.OpenShut
import Derived.ShutString
import Derived.ChangeOld
import Derived.Test.YtlhkojcmcmkmaaaGreatJLeaf
import Derived.Test.YtlhkojcmcmkmaaaGreatJNetM
import Derived.Test.YtlhkojcmcmkmaaaGreatJG33e
namespace Go.Proofs.YtlhkojcmcmkmaaaGreat
open Go.RowKit
def sBase3 : ByteArray:=⟨#[98,97,115,101]⟩
def sCar3 : ByteArray:=⟨#[99,97,114]⟩
def sNone3 : ByteArray:=⟨#[110,111,110,101]⟩
def sA3 : ByteArray:=⟨#[97]⟩
def w3s : List WageT:=[⟨sBase3,1,false,true,false,4000⟩,⟨sCar3,2,true,false,false,4000⟩]
def sch3 : SchT:=⟨sA3,100000,0,0,1000000,1,4,false⟩
def tar3 : TarT:=⟨2,[⟨0,0⟩],0,0,1,0,[]⟩
def exR3 (Aw As Ab : Option Addr) : RulesM:=⟨Aw,2,w3s,As,1,[sch3],⟨tar3,Ab,1,none,0⟩,12,⟨0,0,0,0,0⟩,0⟩
def r3 : RulesT:=⟨w3s,[sch3],tar3,12,⟨0,0,0,0,0⟩,0⟩
def y3M : YearM:=⟨0,0,0,none,0,[],none,0,[]⟩
def y3 : YearT:=⟨0,0,0,[],[]⟩
theorem sch3_ok : SchOk sch3:=⟨by decide +kernel,by decide,by decide,by decide,by decide,by decide,by decide,by decide,by decide,by decide,by decide,by decide,by decide⟩
theorem br3_ok : BrOk tar3.brs:=by
 have h0:∀ i,i < tar3.brs.length→i = 0:=fun i hi=>by
  have:i < 1:=hi
  omega
 refine ⟨by decide,by decide,rfl,fun i hi=>?_,fun i hi=>?_,fun i hi=>?_,fun i hi=>?_⟩
 ·
  have:i+1 < 1:=hi
  omega
 ·
  obtain rfl:=h0 i hi; decide
 ·
  obtain rfl:=h0 i hi; decide
 ·
  obtain rfl:=h0 i hi; decide
theorem tar3_ok : TarOk tar3:=⟨by decide,by decide,br3_ok,by decide,by decide,by decide,by decide,by decide,by decide,by decide,by decide,fun h=>absurd h (by decide),fun _=>rfl⟩
theorem sh3_ok : ShOk ⟨0,0,0,0,0⟩:=⟨by decide,by decide,by decide,by decide,by decide,by decide,by decide,by decide,by decide,by decide⟩
theorem w3s_ok : validB w3s = true:=by decide +kernel
theorem r3_ok : RulesOk r3:=⟨w3s_ok,by decide,fun s hs=>(by
  have:s = sch3:=by simpa [r3] using hs
  subst this
  exact sch3_ok),List.pairwise_singleton _ _,tar3_ok,by decide,by decide,sh3_ok,by decide,by decide⟩
theorem y3_ok : YearOk y3:=⟨by decide,by decide,rfl,nofun,by decide,by decide,by decide,by decide,by decide +kernel⟩
theorem sz3 : sBase3.size≤maxLen∧sCar3.size≤maxLen∧sNone3.size≤maxLen:=by unfold maxLen; decide
theorem gr3 : GrIn r3 y3 [] sBase3:=⟨r3_ok,.inl rfl,nofun,by decide,nofun,y3_ok,by decide,by decide,by decide,by decide,nofun,⟨⟨sBase3,1,false,true,false,4000⟩,by decide +kernel,rfl⟩,sz3.1,fun s hs=>(by
  have:s = sch3:=by simpa [r3] using hs
  subst this
  rfl),by decide +kernel,fun b hb=>(by
  have:b = ⟨0,0⟩:=by simpa [r3,tar3] using hb
  subst this
  decide)⟩
theorem no3 : ¬ (∃ v,findW w3s sCar3 = some v∧v.kind = 1)∧¬ (∃ v,findW w3s sNone3 = some v∧v.kind = 1):=by
 have h1:findW w3s sCar3 = some ⟨sCar3,2,true,false,false,4000⟩:=by decide +kernel
 have h2:findW w3s sNone3 = none:=by decide +kernel
 rw [h1,h2]
 exact ⟨fun ⟨v,h,hk⟩=>by injection h with h; subst h; exact absurd hk (by decide),nofun⟩
def f3 : Int→Int:=fL r3 y3 [] sBase3
theorem wind3 : windR r3 = 10:=by decide +kernel
theorem f3_999 : f3 999 = 899:=by decide +kernel
theorem f3_1000 : f3 1000 = 900:=by decide +kernel
theorem f3_top : f3 100000000 = 99900000:=by decide +kernel
theorem f3_near : ∀ k : Nat,k < 11→f3 (989+k) < 900:=by decide +kernel
theorem f3_far : ∀ k : Nat,k < 11→f3 (99999990+k)≤99900000:=by decide +kernel
theorem f3_low {k:Int} (h0:0≤k) (h1:k < 1000) : f3 k < 900:=by
 rcases Int.lt_or_le k 989 with h | h
 ·
  have h2:=gr3.wind (a:=k) (b:=999) (by rw [wind3]; omega)
  have h3:=f3_999
  unfold f3 at h3 ⊢
  omega
 ·
  obtain ⟨j,hj⟩:=Int.eq_ofNat_of_zero_le (show 0≤k - 989 by omega)
  have h2:=f3_near j (by omega)
  rwa [show 989+(j:Int) = k by omega] at h2
theorem f3_high {k:Int} (h0:0≤k) (h1:k≤100000000) : f3 k≤99900000:=by
 rcases Int.lt_or_le k 99999990 with h | h
 ·
  have h2:=gr3.wind (a:=k) (b:=100000000) (by rw [wind3]; omega)
  have h3:=f3_top
  unfold f3 at h3 ⊢
  omega
 ·
  obtain ⟨j,hj⟩:=Int.eq_ofNat_of_zero_le (show 0≤k - 99999990 by omega)
  have h2:=f3_far j (by omega)
  rwa [show 99999990+(j:Int) = k by omega] at h2
theorem ex3 : ∃ v,findW r3.wages sBase3 = some v∧v.kind = 1:=gr3.w
theorem solve3 {a e : Int} (h:SolveS r3 y3 [] sBase3 900 a e) : a = 1000∧e = 0 :=
 h.uniq (.inr (.inr ⟨ex3,by decide,.inl ⟨rfl,by decide,by decide,by have:=f3_1000; unfold f3 at this; omega,fun k h0 h1=>f3_low h0 h1⟩⟩))
theorem err3 {t a e : Int} (h:SolveS r3 y3 [] sBase3 t a e) : e = (if t < 0 ∨ 1000000000 < t then 2 else if 99900000 < t then 16 else 0):=by
 rcases h with ⟨h0,_⟩ | ⟨_,h1,_,rfl⟩ | ⟨_,h1,h2⟩
 ·
  exact absurd ex3 h0
 ·
  rw [if_pos h1]
 ·
  rw [if_neg (by omega)]
  rcases h2 with ⟨rfl,g0,g1,g2,_⟩ | ⟨rfl,_,g⟩
  ·
   have:=f3_high g0 g1
   unfold f3 at this
   rw [if_neg (by omega)]
  ·
   have h3:=g 100000000 (by omega) (by omega)
   have h4:=f3_top
   unfold f3 at h4
   rw [if_pos (by omega)]
theorem sizeRules33 : (Tryz.prog.info? 45).map (·.size) = some 16:=by kernel_rfl
set_option maxRecDepth 100000 in
set_option maxHeartbeats 4000000 in
theorem example33_any (w:World) : Calls Tryz.prog 45 #[] w fun e w'=>∃ Aw As Ab,e = .returned (exR3 Aw As Ab).val∧(exR3 Aw As Ab).In w'∧(Aw ≠ none∧As ≠ none∧Ab ≠ none)∧Below w.heap.size w w':=by
 have hB0:=Blk.new w 45 #[.slice none 0 0,.slice none 0 0,.int .i64 0,.slice none 0 0,.int .i64 0,.int .i64 0,.int .i64 0,.int .i64 0,.slice none 0 0,.int .i64 0,.int .i64 0,.int .i64 0,.int .i64 0,.int .i64 0,.int .i64 0,.int .i64 0]
 have hb0:=below_new w (.cells #[.slice none 0 0,.slice none 0 0,.int .i64 0,.slice none 0 0,.int .i64 0,.int .i64 0,.int .i64 0,.int .i64 0,.slice none 0 0,.int .i64 0,.int .i64 0,.int .i64 0,.int .i64 0,.int .i64 0,.int .i64 0,.int .i64 0] 45)
 go_enter Tryz.func45,Tryz.ntmps45
 go_upto_region 1 with fail
 have hlt0:=hB0.lt
 have hge:w.heap.size < (w.alloc (Obj.cells #[.slice none 0 0,.slice none 0 0,.int .i64 0,.slice none 0 0,.int .i64 0,.int .i64 0,.int .i64 0,.int .i64 0,.slice none 0 0,.int .i64 0,.int .i64 0,.int .i64 0,.int .i64 0,.int .i64 0,.int .i64 0,.int .i64 0] 45)).heap.size:=hlt0
 generalize w.alloc (Obj.cells _ _) = W1 at hB0 hb0 hge hlt0 ⊢
 obtain ⟨o1,ho1⟩ : ∃ o,o = Obj.cells #[.string sBase3,.int .i64 1,.bool false,.bool true,.bool false,.int .i64 4000,.string sCar3,.int .i64 2,.bool true,.bool false,.bool false,.int .i64 4000] 77:=⟨_,rfl⟩
 obtain ⟨o2,ho2⟩ : ∃ o,o = Obj.cells #[.string sA3,.int .i64 100000,.int .i64 0,.int .i64 0,.int .i64 1000000,.int .i64 1,.int .i64 4,.bool false] 123:=⟨_,rfl⟩
 obtain ⟨o3,ho3⟩ : ∃ o,o = Obj.cells #[.int .i64 0,.int .i64 0] 127:=⟨_,rfl⟩
 have hS1:=SliceOf.new encW_len W1 w3s #[.string sBase3,.int .i64 1,.bool false,.bool true,.bool false,.int .i64 4000,.string sCar3,.int .i64 2,.bool true,.bool false,.bool false,.int .i64 4000] 77 rfl
 have hS2:=SliceOf.new encSch_len (W1.alloc o1) [sch3] #[.string sA3,.int .i64 100000,.int .i64 0,.int .i64 0,.int .i64 1000000,.int .i64 1,.int .i64 4,.bool false] 123 rfl
 have hS3:=SliceOf.new encBr_len ((W1.alloc o1).alloc o2) [⟨0,0⟩] #[.int .i64 0,.int .i64 0] 127 rfl
 rw [← ho1] at hS1
 rw [← ho2] at hS2
 rw [← ho3] at hS3
 have hT1:SliceOf encW 6 (((W1.alloc o1).alloc o2).alloc o3) (((W1.alloc o1).alloc o2).alloc o3).heap.size (some ⟨W1.heap.size,0,none⟩) w3s:=((hS1.more (by simp)).advA o2).advA o3
 have hT2:SliceOf encSch 8 (((W1.alloc o1).alloc o2).alloc o3) (((W1.alloc o1).alloc o2).alloc o3).heap.size (some ⟨W1.heap.size+1,0,none⟩) [sch3]:=by
  have h:=(hS2.more (B':=((W1.alloc o1).alloc o2).heap.size) (by simp)).advA o3
  rwa [show (W1.alloc o1).heap.size = W1.heap.size+1 from World.size_alloc _ _] at h
 have hT3:SliceOf encBr 2 (((W1.alloc o1).alloc o2).alloc o3) (((W1.alloc o1).alloc o2).alloc o3).heap.size (some ⟨W1.heap.size+1+1,0,none⟩) [⟨0,0⟩]:=by
  have h:=hS3.more (B':=(((W1.alloc o1).alloc o2).alloc o3).heap.size) (by simp)
  rwa [show ((W1.alloc o1).alloc o2).heap.size = W1.heap.size+1+1 by rw [World.size_alloc,World.size_alloc]] at h
 have hB4:=((hB0.alloc o1).alloc o2).alloc o3
 have hb4:=bel_alloc (bel_alloc (bel_alloc hb0 o1) o2) o3
 clear hS1 hS2 hS3 hB0 hb0
 subst ho1 ho2 ho3
 go_wp2_with (refine wpList_store_blk rfl _ _ _ rfl rfl w.heap.size (cs:=#[.slice none 0 0,.slice none 0 0,.int .i64 0,.slice none 0 0,.int .i64 0,.int .i64 0,.int .i64 0,.int .i64 0,.slice none 0 0,.int .i64 0,.int .i64 0,.int .i64 0,.int .i64 0,.int .i64 0,.int .i64 0,.int .i64 0]) (vs:=#[.slice (some ⟨W1.heap.size,0,none⟩) 2 2,.slice (some ⟨W1.heap.size+1,0,none⟩) 1 1,.int .i64 2,.slice (some ⟨W1.heap.size+1+1,0,none⟩) 1 1,.int .i64 0,.int .i64 0,.int .i64 1,.int .i64 0,.slice none 0 0,.int .i64 12,.int .i64 0,.int .i64 0,.int .i64 0,.int .i64 0,.int .i64 0,.int .i64 0]) rfl rfl hB4 rfl sizeRules33 rfl ?_; intro w5 hB5 hg5)
 have hb5:Below w.heap.size w w5:=bel_only hb4 hg5 (fun q e=>by injection e; omega)
 have hU1:=hT1.advG hg5 (fun a ha=>by injection ha with ha; subst ha; show W1.heap.size ≠ w.heap.size; omega)
 have hU2:=hT2.advG hg5 (fun a ha=>by injection ha with ha; subst ha; show W1.heap.size+1 ≠ w.heap.size; omega)
 have hU3:=hT3.advG hg5 (fun a ha=>by injection ha with ha; subst ha; show W1.heap.size+1+1 ≠ w.heap.size; omega)
 refine bodyPost_ret (results_blk Tryz.results45 rfl hB5 Tryz.underlying45 rfl (by kernel_rfl)) rfl ?_
 exact ⟨some ⟨W1.heap.size,0,none⟩,some ⟨W1.heap.size+1,0,none⟩,some ⟨W1.heap.size+1+1,0,none⟩,rfl,⟨hU1,hU2,⟨hU3,SliceOf.nil_⟩⟩,⟨nofun,nofun,nofun⟩,hb5⟩
set_option maxRecDepth 100000 in
set_option maxHeartbeats 4000000 in
theorem awake33_any (w:World) : Calls Tryz.prog 32 #[] w fun e w'=>e = .returned (.bool true)∧Below w.heap.size w w':=by
 have hkinds:∀ v ∈ w3s,v.kind = 1 ∨ v.kind = 2:=by decide +kernel
 have hfl:∀ s ∈ [sch3],s.floor = 0:=by decide +kernel
 have HS:Hid (∀ Aw As Ab W,(exR3 Aw As Ab).In W→Calls Tryz.prog 42 #[.agg (rvM (exR3 Aw As Ab)),.agg (yQv y3M),.slice none 0 0,.string sBase3,.int .i64 900] W fun e w'=>e = .returned (.tuple #[.int .i64 1000,.int .i64 0])∧Below W.heap.size W w'):=fun Aw As Ab W h=>by
  refine (solveG (exR3 Aw As Ab) y3M none 0 [] sBase3 900 W h ⟨SliceOf.nil_,SliceOf.nil_⟩ SliceOf.nil_ r3_ok (show (2:Int) ≠ 1 by decide) hfl gr3.lv hkinds (fun _=>gr3)).mono ?_
  rintro e w' ⟨⟨a,er,rfl,hs⟩,hb⟩
  obtain ⟨rfl,rfl⟩:=solve3 hs
  exact ⟨rfl,hb⟩
 have HL:Hid (∀ Aw As Ab W,(exR3 Aw As Ab).In W→Calls Tryz.prog 36 #[.agg (rvM (exR3 Aw As Ab)),.agg (yQv y3M),.slice none 0 0,.string sBase3,.int .i64 999] W fun e w'=>e = .returned (.tuple #[.int .i64 899,.int .i64 0])∧Below W.heap.size W w'):=fun Aw As Ab W h=>by
  refine (legalGood (exR3 Aw As Ab) y3M none 0 [] sBase3 999 W h ⟨SliceOf.nil_,SliceOf.nil_⟩ SliceOf.nil_ gr3 (by decide) (by decide)).mono ?_
  rintro e w' ⟨rfl,hb⟩
  have h3:fL (exR3 Aw As Ab).t y3M.t [] sBase3 999 = 899:=f3_999
  exact ⟨by rw [h3],hb⟩
 have HR:Hid (∀ Aw As Ab W,(exR3 Aw As Ab).In W→Calls Tryz.prog 70 #[.agg (rvM (exR3 Aw As Ab))] W fun e w'=>e = .returned (.bool false)∧Below W.heap.size W w'):=fun Aw As Ab W h=>refusedG (exR3 Aw As Ab) W h r3_ok (show (2:Int) ≠ 1 by decide) hfl gr3.lv
 clear hkinds hfl
 go_enter Tryz.func32,Tryz.ntmps32
 go_wp2_with fail
 refine (example33_any _).mono ?_
 rintro e w1 ⟨Aw,As,Ab,rfl,hR1,_,hb1⟩
 go_wp2_with fail
 refine (HS.out Aw As Ab w1 hR1).mono ?_
 rintro e w2 ⟨rfl,hb2⟩
 have hbw2:=bel_adv hb1 hb2
 clear hR1 hb1 hb2 HS
 go_wp2_with fail
 refine (example33_any _).mono ?_
 rintro e w3 ⟨Aw3,As3,Ab3,rfl,hR3,_,hb3⟩
 go_wp2_with fail
 refine (HL.out Aw3 As3 Ab3 w3 hR3).mono ?_
 rintro e w4 ⟨rfl,hb4⟩
 have hbw4:=bel_adv (bel_adv hbw2 hb3) hb4
 clear hR3 hb3 hb4 HL hbw2
 go_wp2_with fail
 refine (example33_any _).mono ?_
 rintro e w5 ⟨Aw5,As5,Ab5,rfl,hR5,_,hb5⟩
 go_wp2_with fail
 refine (HR.out Aw5 As5 Ab5 w5 hR5).mono ?_
 rintro e w6 ⟨rfl,hb6⟩
 have hbw6:=bel_adv (bel_adv hbw4 hb5) hb6
 go_wp2
 go_ret
 exact ⟨rfl,hbw6⟩
end Go.Proofs.YtlhkojcmcmkmaaaGreat
namespace Go.Proofs.YtlhkojcmcmkmaaaGreat
open Go.ChangeShapes Go.WideShapes Go.ChangeAt Go.RowKit Go.Deep
section
variable {H:Type} {enc:TypeId × Value→H} {P:Program} {w:World} {base:Nat} {spare:Nat→Bool} {held:Bool}
end
theorem list_of {α:Type} {encA:α→List Value} {k:Nat} {w:World} (hk : ∀ x,(encA x).length = k) (hk0:0 < k) (Q:α→Prop) (a:Addr) (len:Nat)
  (h:∀ i,i < len→∃ x,Q x∧∀ j v,(encA x)[j]? = some v→w.cell? (a.add (i * k+j)) = some v) :
  ∃ xs:List α,xs.length = len∧(∀ x ∈ xs,Q x)∧SliceOf encA k w w.heap.size (some a) xs:=by
 have h':∃ xs:List α,xs.length = len∧(∀ x ∈ xs,Q x)∧∀ i x,xs[i]? = some x→∀ j v,(encA x)[j]? = some v→w.cell? (a.add (i * k+j)) = some v:=by
  induction len with
  | zero=>exact ⟨[],rfl,by simp,by simp⟩
  | succ n ih =>
   obtain ⟨xs,h1,h2,h3⟩:=ih (fun i hi=>h i (by omega))
   obtain ⟨x,hx1,hx2⟩:=h n (by omega)
   refine ⟨xs++[x],by simp [h1],fun y hy=>?_,fun i y hi j v hj=>?_⟩
   ·
    rcases List.mem_append.1 hy with h4 | h4
    ·
     exact h2 y h4
    ·
     simp at h4; subst h4; exact hx1
   ·
    rcases Nat.lt_or_ge i xs.length with h4 | h4
    ·
     rw [List.getElem?_append_left h4] at hi; exact h3 i y hi j v hj
    ·
     rw [List.getElem?_append_right h4] at hi
     have h5:i - xs.length = 0:=by
      have:=(List.getElem?_eq_some_iff.1 hi).1
      simp at this; exact this
     rw [h5] at hi
     simp at hi
     subst hi
     obtain rfl:i = n:=by omega
     exact hx2 j v hj
 obtain ⟨xs,h1,h2,h3⟩:=h'
 refine ⟨xs,h1,h2,fun hne=>?_⟩
 obtain ⟨b,off,spot⟩:=a
 have hpos:0 < xs.length:=List.length_pos_iff.2 hne
 have hx0:=List.getElem?_eq_getElem hpos
 have hv0 : (encA xs[0])[0]? = some ((encA xs[0])[0]'(by rw [hk]; exact hk0)) := List.getElem?_eq_getElem _
 have hc0:=h3 0 _ hx0 0 _ hv0
 simp only [Nat.zero_mul,Nat.zero_add,Addr.add,if_true] at hc0
 have hspot:spot = none:=by simpa using World.cell?_spot hc0
 subst hspot
 have hb:b < w.heap.size:=World.block_lt_of_cell? w ⟨b,off,none⟩ hc0
 refine ⟨b,off,rfl,hb,fun i x hi j v hj=>?_⟩
 have:=h3 i x hi j v hj
 have hadd:(⟨b,off,none⟩ : Addr).add (i * k+j) = ⟨b,off+i * k+j,none⟩:=by
  unfold Addr.add
  split
  ·
   rename_i h0
   have h1:i * k = 0:=by omega
   have h2:j = 0:=by omega
   subst h2; simp
  ·
   simp [Nat.add_assoc]
 rw [hadd] at this
 exact this
theorem wf_I64 {n:Int} (h : (Lit.int .i64 n).wf = true) : I64 n:=by
 simp [Lit.wf,IntKind.min,IntKind.max,IntKind.signed,IntKind.bits] at h
 exact ⟨by omega,by omega⟩
theorem openI {H:Type} {enc:TypeId × Value→H} {W:World} {a:Option Addr} {len cap : Nat} {d:DataW H} {p:List MemPlace} (h:DataW.Trod enc Tryz.prog W 0 (fun _=>true) true 34 (.slice a len cap) d p) :
  ∃ xs:List Int,xs.length = len∧SliceOf encI 1 W W.heap.size a xs∧(∀ x ∈ xs,I64 x)∧len≤cap∧cap≤maxLen:=by
 obtain ⟨fuel,hf⟩:=h
 rcases open_ints Tryz.underlying34 Tryz.underlying3 (by kernel_rfl) hf with ⟨hcs,_⟩ | ⟨x,l,c,zs,hcs,_,hl,hm,hz,_,hcell,hwz⟩
 ·
  simp [Value.cells] at hcs
  obtain ⟨rfl,rfl,rfl⟩:=hcs
  exact ⟨[],rfl,SliceOf.nil_,by simp,by omega,by unfold maxLen; omega⟩
 ·
  simp [Value.cells] at hcs
  obtain ⟨rfl,rfl,rfl⟩:=hcs
  have hz':zs.length = cap:=by simpa using hz
  have hh:∀ i,i < len→∃ y:Int,I64 y∧∀ j v,(encI y)[j]? = some v→W.cell? (x.add (i * 1+j)) = some v:=by
   intro i hi'
   refine ⟨zs.getD i 0,?_,fun j v hj=>?_⟩
   ·
    apply wf_I64
    apply hwz
    rw [List.getD_eq_getElem?_getD,List.getElem?_eq_getElem (by omega)]
    exact List.getElem_mem _
   ·
    match j,hj with
    | 0,hj =>
     simp [encI] at hj
     subst hj
     have:=hcell i (by omega)
     simpa using this
    | (n+1),hj=>simp [encI] at hj
  obtain ⟨xs,h1,h2,h3⟩:=list_of (k:=1) (encA:=encI) (fun _=>rfl) Nat.one_pos _ x len hh
  exact ⟨xs,h1,h3,h2,hl,hm⟩
end Go.Proofs.YtlhkojcmcmkmaaaGreat
