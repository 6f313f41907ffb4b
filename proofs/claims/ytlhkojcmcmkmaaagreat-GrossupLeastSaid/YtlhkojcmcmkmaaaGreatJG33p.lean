/- Joined texts: G33p Law33. Conditions: as stated. -/
import Derived.Test.YtlhkojcmcmkmaaaGreatJCaseIn
import Derived.Test.YtlhkojcmcmkmaaaGreatJG33
import Derived.Test.YtlhkojcmcmkmaaaGreatJG33e
import Derived.Test.YtlhkojcmcmkmaaaGreatJG33g
namespace Go.Proofs.YtlhkojcmcmkmaaaGreat
open Go.RowKit
theorem YearG.ok33 {k:Nat} {ym:YearM} (hy:YearG k ym) (hk:k≤3) : YearOk ym.t:=by
 have hper:=hy.per
 have hylen:=hy.len
 refine ⟨?_,?_,?_,?_,hy.inc.1,?_,?_,?_,hy.taken.valid⟩
 ·
  show 0≤ym.periods
  omega
 ·
  show ym.periods≤53
  omega
 ·
  show (ym.ins.length:Int) = ym.periods
  omega
 ·
  intro x hx
  have:=hy.ins x hx
  omega
 ·
  show ym.income≤ym.periods * 1000000000
  have:=hy.inc.2
  omega
 ·
  show -(ym.periods * 1000000000)≤ym.withheld
  have:=hy.wh.1
  omega
 ·
  show ym.withheld≤ym.periods * 1000000000
  have:=hy.wh.2
  omega
theorem names33 : ∀ c ∈ codes4,nameB c = true:=by decide +kernel
theorem GenE.size33 {ws:List WageT} {es:List Elem} (h:GenE ws es) (hw:GenW 4 ws) : ∀ x ∈ es,x.code.size≤maxLen:=fun x hx=>by
 obtain ⟨⟨y,hy1,hy2⟩,_⟩:=h x hx
 rw [hy2]
 exact name_max (names33 _ (hw.ok y hy1).code)
theorem GrossG.kinds {rm:RulesM} (h:GrossG rm) : ∀ v ∈ rm.ws,v.kind = 1 ∨ v.kind = 2:=fun v hv=>by
 rcases (h.ws.ok v hv).kind with h | h
 ·
  exact .inl h
 ·
  exact .inr h.1
theorem grIn_of {rm:RulesM} {ym:YearM} {k:Nat} {es:List Elem} {c:ByteArray} (hr:GrossG rm) (hy:YearG k ym) (hk:k≤2) (he:GenE rm.ws es) (hel:es.length≤3) (hc:c.size≤maxLen) (hw : ∃ v,findW rm.ws c = some v∧v.kind = 1) : GrIn rm.t ym.t es c:=by
 have hper:=hy.per
 have hylen:=hy.len
 refine ⟨hr.ok,hr.m23,he,hel,he.size33 hr.ws,hy.ok33 (by omega),?_,?_,?_,?_,?_,hw,hc,hr.fl,hr.lv,fun b hb=>(hr.ok.tar.brs.mem_rate b hb).2⟩
 ·
  show ym.periods < rm.count
  have:=hr.cnt
  omega
 ·
  show ym.ins.length≤4
  omega
 ·
  show ym.income≤2400000
  have:=hy.inc.2
  omega
 ·
  show -1000000≤ym.withheld∧ym.withheld≤1000000
  have:=hy.wh
  omega
 ·
  intro v hv
  exact (hy.ins v hv).2
theorem inOk33 {rm:RulesM} {ym:YearM} {k:Nat} {es:List Elem} {c:ByteArray} {n:Int} (hr:RulesOk rm.t) (hy:YearG k ym) (hk:k≤3) (he : ∀ x ∈ es,x.code.size≤maxLen) (hc:c.size≤maxLen) : InOk (mkI rm pQ ym [] true (es++[⟨c,n⟩])):=by
 refine ⟨hr,pY_ok,hy.ok33 hk,⟨recB_nil,(by show (0:Nat)≤16; omega),nofun⟩,nofun,fun x hx=>?_⟩
 rcases List.mem_append.1 hx with h | h
 ·
  exact he x h
 ·
  rw [List.mem_singleton] at h; subst h; exact hc
theorem salary_size : cSalary.size≤maxLen:=by unfold maxLen; decide
end Go.Proofs.YtlhkojcmcmkmaaaGreat
namespace Go.Proofs.YtlhkojcmcmkmaaaGreat
open Go.RowKit
theorem BwC.blkq {F C : World→Prop} (_:Inhabited (BwC C F)) {g:Nat} {t:TypeId} {cs:Array Value} (h : ∀ w',C w'→Blk w' g t cs) : ∀ w',(∃ p : BwC C F,w' = p.w')→Blk w' g t cs:=fun _ ⟨p,e⟩=>e ▸ h _ p.h
structure G33 (k:Nat) (rm:RulesM) (ym:YearM) (es:List Elem) : Prop where
 r:GrossG rm
 y:YearG k ym
 k2:k≤2
 e:GenE rm.ws es
 el:es.length≤2
theorem G33.gr {k:Nat} {rm:RulesM} {ym:YearM} {es:List Elem} (h:G33 k rm ym es) {c:ByteArray} (hc:c.size≤maxLen) (hw : ∃ v,findW rm.ws c = some v∧v.kind = 1) : GrIn rm.t ym.t es c:=grIn_of h.r h.y h.k2 h.e (by have:=h.el; omega) hc hw
structure H33 (w:World) (g1 g2 : Nat) (rm:RulesM) (ym:YearM) (E:Option Addr) (es:List Elem) (M:Nat) (W:World) : Prop where
 R:Blk W g1 45 (rvM rm)
 Y:Blk W g2 53 (yQv ym)
 r:RulesF rm W (w.heap.size+1)
 y:YearF ym W (w.heap.size+1)
 e:FrS encE 2 W (w.heap.size+1) E es
 d:DeckIn W w.heap.size M
 bel:Below w.heap.size w W
 n1:w.heap.size < g1
 n2:w.heap.size < g2
section
variable {w W W':World} {g1 g2:Nat} {rm:RulesM} {ym:YearM} {E E':Option Addr} {es es':List Elem} {M M' k:Nat} {c:ByteArray}
theorem RulesF.weaken33 {m:RulesM} {w:World} {b b' : Nat} (h:RulesF m w b) (hb:b'≤b) : RulesF m w b':=⟨h.ws.weaken hb,h.ss.weaken hb,⟨h.tm.brs.weaken hb,h.tm.rows.weaken hb⟩⟩
theorem YearF.weaken33 {m:YearM} {w:World} {b b' : Nat} (h:YearF m w b) (hb:b'≤b) : YearF m w b':=⟨h.ins.weaken hb,h.taken.weaken hb⟩
theorem RulesF.adv33 {m:RulesM} {w w' : World} {b:Nat} (h:RulesF m w b) (hb:Below w.heap.size w w') : RulesF m w' b:=⟨h.ws.adv hb,h.ss.adv hb,⟨h.tm.brs.adv hb,h.tm.rows.adv hb⟩⟩
theorem YearF.adv33 {m:YearM} {w w' : World} {b:Nat} (h:YearF m w b) (hb:Below w.heap.size w w') : YearF m w' b:=⟨h.ins.adv hb,h.taken.adv hb⟩
theorem H33.mk0 {b1 b2 : Nat} (hr:RulesF rm W b1) (hy:YearF ym W b2) (hd:DeckIn W w.heap.size M) (hb:Below w.heap.size w W) (h1:w.heap.size < b1) (h2:w.heap.size < b2) (h3:w.heap.size < W.heap.size) :
  H33 w W.heap.size (W.heap.size+1) rm ym none ([] : List Elem) M ((W.alloc (.cells (rvM rm) 45)).alloc (.cells (yQv ym) 53)):=by
 have hbn:=bel_alloc (below_new W (.cells (rvM rm) 45)) (.cells (yQv ym) 53)
 have hB2:=Blk.new (W.alloc (.cells (rvM rm) 45)) 53 (yQv ym)
 rw [World.size_alloc] at hB2
 exact ⟨(Blk.new W _ _).alloc _,hB2,(hr.weaken33 h1).adv33 hbn,(hy.weaken33 h2).adv33 hbn,FrS.nil_ _ _,hd.bel hbn,bel_adv hb hbn,h3,by omega⟩
theorem H33.sz (h:H33 w g1 g2 rm ym E es M W) : w.heap.size+1≤W.heap.size:=h.d.lt
theorem H33.adv (h:H33 w g1 g2 rm ym E es M W) (hb:Below W.heap.size W W') : H33 w g1 g2 rm ym E es M W' :=
 ⟨h.R.adv hb,h.Y.adv hb,h.r.adv33 hb,h.y.adv33 hb,h.e.adv hb,h.d.bel hb,bel_adv h.bel hb,h.n1,h.n2⟩
theorem H33.deck (h:H33 w g1 g2 rm ym E es M W) (hd:DeckIn W' w.heap.size M') (hg:W.grownBy W' (some w.heap.size)) : H33 w g1 g2 rm ym E es M' W' :=
 have n1:=h.n1
 have n2:=h.n2
 ⟨h.R.grown hg (by intro e; injection e; omega),h.Y.grown hg (by intro e; injection e; omega),h.r.grown hg (fun q e=>by injection e; omega),⟨h.y.ins.grown hg (fun q e=>by injection e; omega),h.y.taken.grown hg (fun q e=>by injection e; omega)⟩,h.e.grown hg (fun q e=>by injection e; omega),hd,bel_only h.bel hg (fun q e=>by injection e; omega),n1,n2⟩
theorem H33.els (h:H33 w g1 g2 rm ym E es M W) (he:FrS encE 2 W (w.heap.size+1) E' es') : H33 w g1 g2 rm ym E' es' M W:=⟨h.R,h.Y,h.r,h.y,he,h.d,h.bel,h.n1,h.n2⟩
theorem H33.yin (h:H33 w g1 g2 rm ym E es M W) : ym.In W:=⟨h.y.ins.sl,h.y.taken.sl⟩
theorem H33.solve (h:H33 w g1 g2 rm ym E es M W) (hp:G33 k rm ym es) (hc:c.size≤maxLen) (ec:Nat) (t:Int) :
  Calls Tryz.prog 42 #[.agg (rvM rm),.agg (yQv ym),.slice E es.length ec,.string c,.int .i64 t] W fun e w'=>(∃ a er,e = .returned (.tuple #[.int .i64 a,.int .i64 er])∧SolveS rm.t ym.t es c t a er)∧Below W.heap.size W w' :=
 solveG rm ym E ec es c t W h.r.in_ h.yin h.e.sl hp.r.ok (by have:=hp.r.m23; omega) hp.r.fl hp.r.lv hp.r.kinds (fun hw=>hp.gr hc hw)
theorem H33.legal (h:H33 w g1 g2 rm ym E es M W) (hp:G33 k rm ym es) (hc:c.size≤maxLen) (ec:Nat) (n:Int) :
  Calls Tryz.prog 36 #[.agg (rvM rm),.agg (yQv ym),.slice E es.length ec,.string c,.int .i64 n] W fun e w'=>e = .returned (.tuple #[.int .i64 (lgO (inL rm.t ym.t es c n)),.int .i64 (inL rm.t ym.t es c n).err])∧Below W.heap.size W w':=by
 have hL:=legalG rm ym E ec es c n W h.r.in_ h.yin h.e.sl (by have:=hp.el; omega) (inOk33 hp.r.ok hp.y (by have:=hp.k2; omega) (hp.e.size33 hp.r.ws) hc)
 exact hL
theorem H33.good (h:H33 w g1 g2 rm ym E es M W) (hg:GrIn rm.t ym.t es c) (ec:Nat) {n:Int} (h0:0≤n) (h1:n≤100000000) :
  Calls Tryz.prog 36 #[.agg (rvM rm),.agg (yQv ym),.slice E es.length ec,.string c,.int .i64 n] W fun e w'=>e = .returned (.tuple #[.int .i64 (fL rm.t ym.t es c n),.int .i64 0])∧Below W.heap.size W w' :=
 legalGood rm ym E ec es c n W h.r.in_ h.yin h.e.sl hg h0 h1
end
set_option maxHeartbeats 1000000 in
theorem find33_any (A:Option Addr) (cap:Nat) (xs:List WageT) (c:ByteArray) (w:World) (h:SliceOf encW 6 w w.heap.size A xs) (hl:xs.length≤9223372036854775806) :
  Calls Tryz.prog 44 #[.slice A xs.length cap,.string c] w fun e w'=>e = .returned (foundV (findW xs c))∧Below w.heap.size w w':=by
 go_enter Tryz.func44,Tryz.ntmps44
 go_wp2
 go_loopw [6] (fun i wr=>∃ k:Nat,k≤xs.length∧i = .int .i64 k∧Hid (∀ j,(hj:j < xs.length)→j < k→hasC c xs[j] = false)∧Below w.heap.size w wr∧Blk wr w.heap.size 77 (encW zeroW).toArray) (fun i _=>xs.length - (intOf i).toNat)
 case atStart=>exact ⟨0,by omega,rfl,fun j _ hj=>absurd hj (by omega),(Below.refl _ _).alloc (Nat.le_refl _) _,Blk.new _ _ _⟩
 case round =>
  obtain ⟨k,hk,rfl,hall,hbel,hblk⟩:=hrel
  have hz:=hblk.lt
  have z0:=hblk.cell 0
  have z1:=hblk.cell 1
  have z2:=hblk.cell 2
  have z3:=hblk.cell 3
  have z4:=hblk.cell 4
  have z5:=hblk.cell 5
  have f0:=hblk.frozen 0
  have f1:=hblk.frozen 1
  have f2:=hblk.frozen 2
  have f3:=hblk.frozen 3
  have f4:=hblk.frozen 4
  have f5:=hblk.frozen 5
  simp only [encW,zeroW,List.getElem?_toArray,List.getElem?_cons_zero,List.getElem?_cons_succ] at z0 z1 z2 z3 z4 z5
  by_cases hlt:k < xs.length
  ·
   obtain ⟨b,off,rfl,hb,hc⟩:=(h.below hbel).at_ hlt
   have c0:=hc 0 _ rfl
   have c1:=hc 1 _ rfl
   have c2:=hc 2 _ rfl
   have c3:=hc 3 _ rfl
   have c4:=hc 4 _ rfl
   have c5:=hc 5 _ rfl
   simp only [Nat.add_zero] at c0
   clear hc
   have hbb:b < wr.heap.size:=by omega
   by_cases ht:(xs[k].code.toList == c.toList) = true
   ·
    have HF:=Lib.hid (findW_some hlt hall.out ht)
    go_wp2
    have hfb:=hblk.put6 rfl (.string xs[k].code) (.int .i64 xs[k].kind) (.bool xs[k].taxable) (.bool xs[k].insured) (.bool xs[k].attachable) (.int .i64 xs[k].account)
    have hfB:Below w.heap.size w _:=below_put (below_put (below_put (below_put (below_put (below_put hbel (Nat.le_refl _) 0 (.string xs[k].code)) (Nat.le_refl _) 1 (.int .i64 xs[k].kind)) (Nat.le_refl _) 2 (.bool xs[k].taxable)) (Nat.le_refl _) 3 (.bool xs[k].insured)) (Nat.le_refl _) 4 (.bool xs[k].attachable)) (Nat.le_refl _) 5 (.int .i64 xs[k].account)
    generalize World.setCell _ _ (Value.int .i64 xs[k].account) = WW at hfb hfB ⊢
    have q0:=hfb.cell 0
    have q1:=hfb.cell 1
    have q2:=hfb.cell 2
    have q3:=hfb.cell 3
    have q4:=hfb.cell 4
    have q5:=hfb.cell 5
    simp only [nqg,nqh,nqi] at q0 q1 q2 q3 q4 q5
    refine bodyPost_ret (v:=foundV (some xs[k])) (by simp [results,Tryz.results44,go_sem,q0,q1,q2,q3,q4,q5,foundV,encW]) rfl ⟨by rw [HF.out],hfB⟩
   ·
    have ht':(xs[k].code.toList == c.toList) = false:=by simpa using ht
    clear ht
    go_wp2
    go_roundw
    case rel =>
     refine ⟨k+1,by omega,by go_num,fun j hj hjk=>?_,hbel,hblk⟩
     rcases Nat.lt_or_ge j k with h1 | h1
     ·
      exact hall.out j hj h1
     ·
      obtain rfl:j = k:=by omega
      exact ht'
    case measure=>simp [intOf]; omega
  ·
   have HF:=Lib.hid (findW_none (xs:=xs) (c:=c) (fun j hj=>hall.out j hj (by omega)))
   go_wp2
   have hfb:=hblk.put6 rfl (.string { data:=#[] }) (.int .i64 0) (.bool false) (.bool false) (.bool false) (.int .i64 0)
   have hfB:Below w.heap.size w _:=below_put (below_put (below_put (below_put (below_put (below_put hbel (Nat.le_refl _) 0 (.string { data:=#[] })) (Nat.le_refl _) 1 (.int .i64 0)) (Nat.le_refl _) 2 (.bool false)) (Nat.le_refl _) 3 (.bool false)) (Nat.le_refl _) 4 (.bool false)) (Nat.le_refl _) 5 (.int .i64 0)
   generalize World.setCell _ _ (Value.int .i64 0) = WW at hfb hfB ⊢
   have q0:=hfb.cell 0
   have q1:=hfb.cell 1
   have q2:=hfb.cell 2
   have q3:=hfb.cell 3
   have q4:=hfb.cell 4
   have q5:=hfb.cell 5
   simp only [nqg,nqh,nqi] at q0 q1 q2 q3 q4 q5
   refine bodyPost_ret (v:=foundV none) (by simp [results,Tryz.results44,go_sem,q0,q1,q2,q3,q4,q5,foundV,encW,zeroW]) rfl ⟨by rw [HF.out],hfB⟩
end Go.Proofs.YtlhkojcmcmkmaaaGreat
