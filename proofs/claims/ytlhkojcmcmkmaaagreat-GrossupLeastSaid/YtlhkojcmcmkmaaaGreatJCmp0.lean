/- Joined texts: Cmp0 YrS Cmp6y Cmp6c Cmp6b Cmp6 AddD2 R31d R31e CmpP NetJ R28e Cmp5 Cmp4 Cmp3b Cmp3a Cmp1b Cmp1. Conditions: as stated. -/
import Derived.Deep.CutRange
import Derived.Deep.RegionHeld3
import Derived.StillTailTactics
import Derived.Test.YtlhkojcmcmkmaaaGreatJNetP
import Derived.Test.YtlhkojcmcmkmaaaGreatJR30b
import Derived.Test.YtlhkojcmcmkmaaaGreatJAlc
import Derived.Test.YtlhkojcmcmkmaaaGreatJDedV
import Derived.Test.YtlhkojcmcmkmaaaGreatJMix2
import Derived.Test.YtlhkojcmcmkmaaaGreatJMix4
import Derived.Test.YtlhkojcmcmkmaaaGreatJNetM
import Derived.Test.YtlhkojcmcmkmaaaGreatJP29b
namespace Go.Proofs.YtlhkojcmcmkmaaaGreat
open Go.RowKit
def SzGe (g:Nat) (w:World) : Prop:=g≤w.heap.size
theorem SzGe.adv {g:Nat} {w w' : World} (h:SzGe g w) (hb:Below w.heap.size w w') : SzGe g w':=Nat.le_trans h hb.size
theorem SzGe.grown {g:Nat} {w w' : World} (h:SzGe g w) {row:Option Nat} (hg:w.grownBy w' row) : SzGe g w':=Nat.le_trans h hg.size
end Go.Proofs.YtlhkojcmcmkmaaaGreat
namespace Go.Proofs.YtlhkojcmcmkmaaaGreat
open Go.RowKit
structure YSt (W:World) (cs:Array Value) (v0:Value) (ls:List LineT) (x:Int) (v:Option (Value × List Int)) (o n : Option Nat) (w:World) : Prop where
 C:Below W.heap.size W w
 S:Blk w W.heap.size 27 cs
 L:Own encL 3 30 w (W.heap.size+1) v0 ls
 V:∀ r l,v = some (r,l)→Own encI 1 3 w (W.heap.size+1) r l∧∀ q,r.ownBlock = some q→v0.ownBlock ≠ some q∧o ≠ some q∧n ≠ some q
 O:∀ g,o = some g→Blk w g 3 #[.int .i64 x]
 N:∀ g,n = some g→Blk w g 53 #[.int .i64 0,.int .i64 0,.int .i64 0,.slice none 0 0,.slice none 0 0]∧W.heap.size < g∧v0.ownBlock ≠ some g
section
variable {W:World} {cs:Array Value} {v0:Value} {ls:List LineT} {x:Int} {v:Option (Value × List Int)} {o n:Option Nat} {w w':World}
theorem YSt.adv (h:YSt W cs v0 ls x v o n w) (hb:Below w.heap.size w w') : YSt W cs v0 ls x v o n w' :=
 ⟨bel_adv h.C hb,h.S.adv hb,h.L.adv hb,fun r l e=>⟨(h.V r l e).1.adv hb,(h.V r l e).2⟩,fun g e=>(h.O g e).adv hb,fun g e=>⟨(h.N g e).1.adv hb,(h.N g e).2⟩⟩
theorem YSt.base (h:YSt W cs v0 ls x v o n w) : W.heap.size+1≤w.heap.size:=h.S.lt
end
section
variable {P:Program} {ops:Array Oper} {md:Region.Mode} {C:World→Prop} {s:Nat}
end
end Go.Proofs.YtlhkojcmcmkmaaaGreat
namespace Go.Proofs.YtlhkojcmcmkmaaaGreat
open Go.RowKit
end Go.Proofs.YtlhkojcmcmkmaaaGreat
namespace Go.Proofs.YtlhkojcmcmkmaaaGreat
open Go.RowKit
def put7 (W:World) (g:Nat) (v0 v1 v2 v3 v4 v5 v6 : Value) : World:=(((((((W.setCell ⟨g,0,none⟩ v0).setCell ⟨g,1,none⟩ v1).setCell ⟨g,2,none⟩ v2).setCell ⟨g,3,none⟩ v3).setCell ⟨g,4,none⟩ v4).setCell ⟨g,5,none⟩ v5).setCell ⟨g,6,none⟩ v6)
def put5 (W:World) (g:Nat) (v0 v1 v2 v3 v4 : Value) : World:=(((((W.setCell ⟨g,0,none⟩ v0).setCell ⟨g,1,none⟩ v1).setCell ⟨g,2,none⟩ v2).setCell ⟨g,3,none⟩ v3).setCell ⟨g,4,none⟩ v4)
theorem put7_grown (W:World) (g:Nat) (v0 v1 v2 v3 v4 v5 v6 : Value) : W.grownBy (put7 W g v0 v1 v2 v3 v4 v5 v6) (some g):=(only_setCell (p:=⟨g,6,none⟩) (only_setCell (p:=⟨g,5,none⟩) (only_setCell (p:=⟨g,4,none⟩) (only_setCell (p:=⟨g,3,none⟩) (only_setCell (p:=⟨g,2,none⟩) (only_setCell (p:=⟨g,1,none⟩) (only_setCell (p:=⟨g,0,none⟩) (only_refl W (some g)) (.inl rfl) v0) (.inl rfl) v1) (.inl rfl) v2) (.inl rfl) v3) (.inl rfl) v4) (.inl rfl) v5) (.inl rfl) v6)
theorem put5_grown (W:World) (g:Nat) (v0 v1 v2 v3 v4 : Value) : W.grownBy (put5 W g v0 v1 v2 v3 v4) (some g):=(only_setCell (p:=⟨g,4,none⟩) (only_setCell (p:=⟨g,3,none⟩) (only_setCell (p:=⟨g,2,none⟩) (only_setCell (p:=⟨g,1,none⟩) (only_setCell (p:=⟨g,0,none⟩) (only_refl W (some g)) (.inl rfl) v0) (.inl rfl) v1) (.inl rfl) v2) (.inl rfl) v3) (.inl rfl) v4)
theorem put7_blk {W:World} {g:Nat} {t:TypeId} {a0 a1 a2 a3 a4 a5 a6 : Value} (h:Blk W g t #[a0,a1,a2,a3,a4,a5,a6]) (v0 v1 v2 v3 v4 v5 v6 : Value) : Blk (put7 W g v0 v1 v2 v3 v4 v5 v6) g t #[v0,v1,v2,v3,v4,v5,v6]:=by
 have h1:=h.fill [v0,v1,v2,v3,v4,v5,v6] rfl
 simp only [putAll,Nat.zero_add,Nat.reduceAdd] at h1
 exact h1
theorem put5_blk {W:World} {g:Nat} {t:TypeId} {a0 a1 a2 a3 a4 : Value} (h:Blk W g t #[a0,a1,a2,a3,a4]) (v0 v1 v2 v3 v4 : Value) : Blk (put5 W g v0 v1 v2 v3 v4) g t #[v0,v1,v2,v3,v4]:=by
 have h1:=h.fill [v0,v1,v2,v3,v4] rfl
 simp only [putAll,Nat.zero_add,Nat.reduceAdd] at h1
 exact h1
structure Ex (gs gn : Nat) (a w : World) : Prop where
 os:w.os = a.os
 tape:w.tape = a.tape
 output:w.output = a.output
 size:a.heap.size≤w.heap.size
 block:∀ q,q < a.heap.size→q ≠ gs→q ≠ gn→w.heap[q]? = a.heap[q]?
theorem Ex.refl (gs gn : Nat) (a:World) : Ex gs gn a a:=⟨rfl,rfl,rfl,Nat.le_refl _,fun _ _ _ _=>rfl⟩
theorem Ex.stable (gs gn : Nat) (a:World) : Stable (Ex gs gn a):=fun w w' h hb=>⟨hb.os.trans h.os,hb.tape.trans h.tape,hb.output.trans h.output,Nat.le_trans h.size hb.size,fun q hq h1 h2=>(hb.block q (by have:=h.size; omega)).trans (h.block q hq h1 h2)⟩
theorem Ex.grown {gs gn : Nat} {a w w' : World} {row:Option Nat} (h:Ex gs gn a w) (hg:w.grownBy w' row) (hr:row = some gs ∨ row = some gn) : Ex gs gn a w':=⟨hg.os.trans h.os,hg.tape.trans h.tape,hg.output.trans h.output,Nat.le_trans h.size hg.size,fun q hq h1 h2=>(hg.block q (by have:=h.size; omega) (fun e=>by rcases hr with r | r <;> (rw [r] at e; injection e; omega))).trans (h.block q hq h1 h2)⟩
theorem Ex.cell {gs gn : Nat} {a w : World} (h:Ex gs gn a w) {p:Addr} (hp:p.block < a.heap.size) (h1:p.block ≠ gs) (h2:p.block ≠ gn) : w.cell? p = a.cell? p:=World.cell?_of_block (h.block _ hp h1 h2)
theorem SliceOf.ex {α:Type} {enc:α→List Value} {k:Nat} {a w : World} {gs gn : Nat} {A:Option Addr} {l:List α} (h:SliceOf enc k a a.heap.size A l) (hE:Ex gs gn a w) (hb:l ≠ []→∀ q off,A = some ⟨q,off,none⟩→q ≠ gs∧q ≠ gn) : SliceOf enc k w w.heap.size A l:=fun hne=>by
 obtain ⟨q,off,e,hq,hc⟩:=h hne
 have:=hb hne q off e
 have hs:=hE.size
 exact ⟨q,off,e,by omega,fun i x hi j v hj=>(hE.cell (p:=⟨q,off+i * k+j,none⟩) hq this.1 this.2).trans (hc i x hi j v hj)⟩
theorem Ex.below {gs gn B : Nat} {z a w : World} (h:Ex gs gn a w) (hb:Below B z a) (hB:B≤a.heap.size) (h1:B≤gs) (h2:B≤gn) : Below B z w:=⟨h.os.trans hb.os,h.tape.trans hb.tape,h.output.trans hb.output,Nat.le_trans hb.size h.size,fun q hq=>(h.block q (by omega) (by omega) (by omega)).trans (hb.block q hq)⟩
end Go.Proofs.YtlhkojcmcmkmaaaGreat
namespace Go.Proofs.YtlhkojcmcmkmaaaGreat
open Go.RowKit
end Go.Proofs.YtlhkojcmcmkmaaaGreat
namespace Go.Proofs.YtlhkojcmcmkmaaaGreat
open Go.RowKit
end Go.Proofs.YtlhkojcmcmkmaaaGreat
namespace Go.Proofs.YtlhkojcmcmkmaaaGreat
open Go.RowKit
end Go.Proofs.YtlhkojcmcmkmaaaGreat
namespace Go.Proofs.YtlhkojcmcmkmaaaGreat
open Go.RowKit
end Go.Proofs.YtlhkojcmcmkmaaaGreat
namespace Go.Proofs.YtlhkojcmcmkmaaaGreat
open Go.RowKit
end Go.Proofs.YtlhkojcmcmkmaaaGreat
namespace Go.Proofs.YtlhkojcmcmkmaaaGreat
open Go.RowKit
def mkI (r:RulesM) (p:PersonM) (y:YearM) (kept:List Elem) (first:Bool) (e:List Elem) : NetIn:=⟨r.t,p.t,y.t,kept,first,e⟩
def SlipPost (I:NetIn) (w:World) (e:Ending) (w' : World) : Prop :=
 (I.err = 0∧∃ A c Ai ci At ct,e = .returned (.tuple #[.agg #[.int .i64 I.b.g,.int .i64 I.b.c,.int .i64 I.b.t,.int .i64 I.b.i,.int .i64 I.b.a,.int .i64 I.legal,.slice A I.lines.length c],.agg #[.int .i64 I.next.periods,.int .i64 I.next.income,.int .i64 I.next.withheld,.slice Ai I.next.insured.length ci,.slice At I.next.taken.length ct],.int .i64 0]) ∧
  SliceOf encL 3 w' w'.heap.size A I.lines∧SliceOf encI 1 w' w'.heap.size Ai I.next.insured∧SliceOf encE 2 w' w'.heap.size At I.next.taken∧Below w.heap.size w w') ∨
 (I.err ≠ 0∧e = .returned (.tuple #[.agg #[.int .i64 0,.int .i64 0,.int .i64 0,.int .i64 0,.int .i64 0,.int .i64 0,.slice none 0 0],.agg #[.int .i64 0,.int .i64 0,.int .i64 0,.slice none 0 0,.slice none 0 0],.int .i64 I.err])∧Below w.heap.size w w')
theorem SlipPost.fail {I:NetIn} {w w' : World} {n:Int} (h:I.err = n) (hn:n ≠ 0) (hb:Below w.heap.size w w') : SlipPost I w (.returned (.tuple #[.agg #[.int .i64 0,.int .i64 0,.int .i64 0,.int .i64 0,.int .i64 0,.int .i64 0,.slice none 0 0],.agg #[.int .i64 0,.int .i64 0,.int .i64 0,.slice none 0 0,.slice none 0 0],.int .i64 n])) w':=.inr ⟨by rw [h]; exact hn,by rw [h],hb⟩
def zeroed (W:World) (gs gn : Nat) : World:=((((((((((((W.setCell ⟨gs,0,none⟩ (.int .i64 0)).setCell ⟨gs,1,none⟩ (.int .i64 0)).setCell ⟨gs,2,none⟩ (.int .i64 0)).setCell ⟨gs,3,none⟩ (.int .i64 0)).setCell ⟨gs,4,none⟩ (.int .i64 0)).setCell ⟨gs,5,none⟩ (.int .i64 0)).setCell ⟨gs,6,none⟩ (.slice none 0 0)).setCell ⟨gn,0,none⟩ (.int .i64 0)).setCell ⟨gn,1,none⟩ (.int .i64 0)).setCell ⟨gn,2,none⟩ (.int .i64 0)).setCell ⟨gn,3,none⟩ (.slice none 0 0)).setCell ⟨gn,4,none⟩ (.slice none 0 0))
theorem zeroed_facts {W:World} {gs gn : Nat} (hs:Blk W gs 27 #[.int .i64 0,.int .i64 0,.int .i64 0,.int .i64 0,.int .i64 0,.int .i64 0,.slice none 0 0]) (hn:Blk W gn 53 #[.int .i64 0,.int .i64 0,.int .i64 0,.slice none 0 0,.slice none 0 0]) (hne:gs ≠ gn) : Blk (zeroed W gs gn) gs 27 #[.int .i64 0,.int .i64 0,.int .i64 0,.int .i64 0,.int .i64 0,.int .i64 0,.slice none 0 0]∧Blk (zeroed W gs gn) gn 53 #[.int .i64 0,.int .i64 0,.int .i64 0,.slice none 0 0,.slice none 0 0]:=by
 have h1:=hs.fill [.int .i64 0,.int .i64 0,.int .i64 0,.int .i64 0,.int .i64 0,.int .i64 0,.slice none 0 0] rfl
 have h2:=hn.farAll (g':=gs) (fun e=>hne e.symm) [.int .i64 0,.int .i64 0,.int .i64 0,.int .i64 0,.int .i64 0,.int .i64 0,.slice none 0 0] 0
 have h3:=h1.farAll (g':=gn) hne [.int .i64 0,.int .i64 0,.int .i64 0,.slice none 0 0,.slice none 0 0] 0
 have h4:=h2.fill [.int .i64 0,.int .i64 0,.int .i64 0,.slice none 0 0,.slice none 0 0] rfl
 simp only [putAll,Nat.zero_add,Nat.reduceAdd] at h3 h4
 exact ⟨h3,h4⟩
theorem zeroed_below {B:Nat} {a:World} {gs gn : Nat} {W0:World} (h:Below B a W0) (hs:B≤gs) (hn:B≤gn) (W:World) (e:W = W0:=by rfl) : Below B a (zeroed W gs gn):=by
 subst e
 exact (Below.setCell (p:=⟨gn,4,none⟩) (Below.setCell (p:=⟨gn,3,none⟩) (Below.setCell (p:=⟨gn,2,none⟩) (Below.setCell (p:=⟨gn,1,none⟩) (Below.setCell (p:=⟨gn,0,none⟩) (Below.setCell (p:=⟨gs,6,none⟩) (Below.setCell (p:=⟨gs,5,none⟩) (Below.setCell (p:=⟨gs,4,none⟩) (Below.setCell (p:=⟨gs,3,none⟩) (Below.setCell (p:=⟨gs,2,none⟩) (Below.setCell (p:=⟨gs,1,none⟩) (Below.setCell (p:=⟨gs,0,none⟩) h hs (.int .i64 0)) hs (.int .i64 0)) hs (.int .i64 0)) hs (.int .i64 0)) hs (.int .i64 0)) hs (.int .i64 0)) hs (.slice none 0 0)) hn (.int .i64 0)) hn (.int .i64 0)) hn (.int .i64 0)) hn (.slice none 0 0)) hn (.slice none 0 0))
structure Pre4 (I:NetIn) : Prop where
 per:I.y.periods < I.r.count
 of_:ofErr I.r.wages I.e (sumsP I.e) = 0
 take:takeE I.p.deds I.base (max I.b.c 0) I.y.taken = 0
 over:I.overs = false
 amt:amtB I.tax = true
 net:¬ (I.first = true∧1000000000 < I.net)
theorem Pre4.err {I:NetIn} (h:Pre4 I) : I.err = if addE I.y.taken I.before ≠ 0 then addE I.y.taken I.before else if takeE I.p.deds I.base (max I.left4 0) I.taken1 ≠ 0 then takeE I.p.deds I.base (max I.left4 0) I.taken1 else addE I.taken1 I.after:=by
 have h1:=h.per
 have h5:=h.amt
 unfold NetIn.err
 rw [if_neg (by omega),h.of_,if_neg (by simp),h.take,if_neg (by simp),h.over,if_neg (by simp),h5,if_neg (by simp),if_neg h.net]
theorem Pre4.err1 {I:NetIn} (h:Pre4 I) {n:Int} (e:addE I.y.taken I.before = n) (hn:n ≠ 0) : I.err = n:=by rw [h.err,e,if_pos hn]
theorem Pre4.err2 {I:NetIn} (h:Pre4 I) (e:addE I.y.taken I.before = 0) {n:Int} (e2:takeE I.p.deds I.base (max I.left4 0) I.taken1 = n) (hn:n ≠ 0) : I.err = n:=by rw [h.err,e,if_neg (by simp),e2,if_pos hn]
theorem Pre4.err3 {I:NetIn} (h:Pre4 I) (e:addE I.y.taken I.before = 0) (e2:takeE I.p.deds I.base (max I.left4 0) I.taken1 = 0) {n:Int} (e3:addE I.taken1 I.after = n) : I.err = n:=by rw [h.err,e,if_neg (by simp),e2,if_neg (by simp),e3]
end Go.Proofs.YtlhkojcmcmkmaaaGreat
namespace Go.Proofs.YtlhkojcmcmkmaaaGreat
open Go.RowKit
theorem levies_succ {I:NetIn} {l:List SchT} {k:Nat} (h:k < l.length) : I.leviesTo (l.take (k+1)) = I.leviesTo (l.take k)+(I.levyOf l[k]).employee:=by
 unfold NetIn.leviesTo
 rw [List.take_succ_eq_append_getElem h,List.map_append,sumI_append]; simp [sumI]
theorem relief_succ {I:NetIn} {l:List SchT} {k:Nat} (h:k < l.length) : I.reliefTo (l.take (k+1)) = I.reliefTo (l.take k)+(if l[k].deductible then (I.levyOf l[k]).employee else 0):=by
 unfold NetIn.reliefTo
 rw [List.take_succ_eq_append_getElem h,List.map_append,sumI_append]; simp [sumI]
theorem levies_bd {I:NetIn} {l:List SchT} {k:Nat} (hl:l.length≤12) (h : ∀ s ∈ l.take k,0≤(I.levyOf s).employee∧(I.levyOf s).employee≤1000000000) : (0≤I.leviesTo (l.take k)∧I.leviesTo (l.take k)≤12000000000)∧0≤I.reliefTo (l.take k)∧I.reliefTo (l.take k)≤12000000000:=by
 have hlen:(l.take k).length≤12:=by simp; omega
 have h1:=sumI_bd (l:=(l.take k).map fun s=>(I.levyOf s).employee) (B:=1000000000) (fun x hx=>by
  obtain ⟨s,hs,rfl⟩:=List.mem_map.1 hx; exact h s hs)
 have h2:=sumI_bd (l:=(l.take k).map fun s=>if s.deductible then (I.levyOf s).employee else 0) (B:=1000000000) (fun x hx=>by
  obtain ⟨s,hs,rfl⟩:=List.mem_map.1 hx
  have:=h s hs
  split <;> omega)
 rw [List.length_map] at h1 h2
 unfold NetIn.leviesTo NetIn.reliefTo
 omega
theorem overs_no {I:NetIn} (h : ∀ s ∈ I.r.schemes,overJ (jointV s I.y.insured.length I.jobs) = false) : I.overs = false:=by
 unfold NetIn.overs
 rw [List.any_eq_false]
 intro s hs
 rw [h s hs]; simp
theorem overs_yes {I:NetIn} {s:SchT} (hs:s ∈ I.r.schemes) (h:overJ (jointV s I.y.insured.length I.jobs) = true) : I.overs = true:=by
 unfold NetIn.overs
 rw [List.any_eq_true]
 exact ⟨s,hs,h⟩
structure Pre2 (I:NetIn) : Prop where
 per:I.y.periods < I.r.count
 of_:ofErr I.r.wages I.e (sumsP I.e) = 0
 take:takeE I.p.deds I.base (max I.b.c 0) I.y.taken = 0
theorem Pre2.err {I:NetIn} (h:Pre2 I) (h4:I.overs = true) : I.err = 4:=by
 have h1:=h.per
 unfold NetIn.err
 rw [if_neg (by omega),h.of_,if_neg (by simp),h.take,if_neg (by simp),if_pos h4]
theorem levyL_succ {I:NetIn} {l:List SchT} {k:Nat} (h:k < l.length) : I.levyL (l.take (k+1)) = I.levyL (l.take k)++(linesK 4 [⟨l[k].code,(I.levyOf l[k]).employee⟩]++linesK 5 [⟨l[k].code,(I.levyOf l[k]).employer⟩]):=by
 unfold NetIn.levyL
 rw [List.take_succ_eq_append_getElem h,List.flatMap_append]; simp
theorem joint_no {I:NetIn} {s:SchT} (ho:overJ (jointV s I.y.insured.length I.jobs) = false) : jointE s I.y.insured.length I.jobs = 0∧∃ rest,jointL s I.y.insured.length I.jobs = I.levyOf s :: rest:=by
 refine ⟨by rw [jointE,ho]; rfl,?_⟩
 have e1:jointL s I.y.insured.length I.jobs = jointR s I.y.insured.length I.jobs:=by rw [jointL,ho]; rfl
 have hl:0 < (jointR s I.y.insured.length I.jobs).length:=by
  unfold jointR
  rw [divN_len]
  simp [basesJ,NetIn.jobs]
 rw [e1]
 unfold NetIn.levyOf
 cases hj:jointR s I.y.insured.length I.jobs with
 | nil=>rw [hj] at hl; simp at hl
 | cons a t=>exact ⟨t,by simp⟩
theorem joint_yes {I:NetIn} {s:SchT} (ho:overJ (jointV s I.y.insured.length I.jobs) = true) : jointE s I.y.insured.length I.jobs = 4∧jointL s I.y.insured.length I.jobs = []:=by
 rw [jointE,jointL,ho]; exact ⟨rfl,rfl⟩
end Go.Proofs.YtlhkojcmcmkmaaaGreat
namespace Go.Proofs.YtlhkojcmcmkmaaaGreat
open Go.RowKit
def LvPostF (m:List LevyT) (er:Int) (w:World) (e:Ending) (w' : World) : Prop :=
 ∃ A cap,e = .returned (.tuple #[.slice A m.length cap,.int .i64 er])∧SliceOf encLv 3 w' w'.heap.size A m∧m.length≤cap∧(∀ a,A = some a→w.heap.size≤a.block)∧Below w.heap.size w w'
end Go.Proofs.YtlhkojcmcmkmaaaGreat
namespace Go.Proofs.YtlhkojcmcmkmaaaGreat
open Go.RowKit
end Go.Proofs.YtlhkojcmcmkmaaaGreat
namespace Go.Proofs.YtlhkojcmcmkmaaaGreat
open Go.RowKit
end Go.Proofs.YtlhkojcmcmkmaaaGreat
namespace Go.Proofs.YtlhkojcmcmkmaaaGreat
open Go.RowKit
structure LvC (B:Nat) (a:World) (lb lo : Nat) (lv:LevyT) (w:World) : Prop where
 bel:Below B a w
 c1:w.cell? ⟨lb,lo+1,none⟩ = some (.int .i64 lv.employee)
 c2:w.cell? ⟨lb,lo+2,none⟩ = some (.int .i64 lv.employer)
 lt:lb < w.heap.size
theorem LvC.grown {B:Nat} {a:World} {lb lo : Nat} {lv:LevyT} {w w' : World} {row:Option Nat} (h:LvC B a lb lo lv w) (hg:w.grownBy w' row) (hB:B≤a.heap.size) (hr : ∀ q,row = some q→B≤q) (hl:row ≠ some lb) : LvC B a lb lo lv w' :=
 ⟨h.bel.trans (only_below hg (Nat.le_trans hB h.bel.size) hr),(World.cell?_of_block (hg.block lb h.lt (fun e=>hl e.symm))).trans h.c1,(World.cell?_of_block (hg.block lb h.lt (fun e=>hl e.symm))).trans h.c2,Nat.lt_of_lt_of_le h.lt hg.size⟩
end Go.Proofs.YtlhkojcmcmkmaaaGreat
namespace Go.Proofs.YtlhkojcmcmkmaaaGreat
open Go.RowKit
end Go.Proofs.YtlhkojcmcmkmaaaGreat
namespace Go.Proofs.YtlhkojcmcmkmaaaGreat
open Go.RowKit
end Go.Proofs.YtlhkojcmcmkmaaaGreat
namespace Go.Proofs.YtlhkojcmcmkmaaaGreat
open Go.RowKit
end Go.Proofs.YtlhkojcmcmkmaaaGreat
