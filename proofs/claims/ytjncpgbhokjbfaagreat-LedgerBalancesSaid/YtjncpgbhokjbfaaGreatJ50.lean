/- Joined texts: Slip OpenI. Conditions: as stated. -/
import Derived.Deep.Slices
import Derived.Deep.Fields
import Derived.ChangeSame
import Derived.ProofKit
import Derived.OpenShut
import Derived.ShutString
import Derived.ChangeOld
import Derived.Test.YtjncpgbhokjbfaaGreatJ01
import Derived.Test.YtjncpgbhokjbfaaGreatJ45
import Derived.Test.YtjncpgbhokjbfaaGreatJ49
namespace Go.Proofs.YtjncpgbhokjbfaaGreat
open Go.RowKit
theorem city_name : nameB cCity = true:=by decide +kernel
theorem names4' : ∀ c ∈ codes4,nameB c = true:=by decide +kernel
structure SlQ (w:World) (q:Nat) (A:Option Addr) (ls:List LineT) : Prop where
 sl:SliceOf encL 3 w w.heap.size A ls
 ne:ls ≠ []→∀ a,A = some a→a.block ≠ q
theorem SlQ.set {w:World} {q:Nat} {A:Option Addr} {ls:List LineT} (h:SlQ w q A ls) {g:Nat} (hg:g = q) (i:Nat) (u:Value) : SlQ (w.setCell ⟨g,i,none⟩ u) q A ls:=by
 subst hg
 exact ⟨fun hne=>(h.sl.advN (row:=some g) (only_setCell (p:=⟨g,i,none⟩) (only_refl _ _) (.inl rfl) u) (fun a ha e=>h.ne hne a ha (by injection e with e; exact e.symm))) hne,h.ne⟩
theorem SlQ.adv {w w' : World} {q:Nat} {A:Option Addr} {ls:List LineT} (h:SlQ w q A ls) (hb:Below w.heap.size w w') : SlQ w' q A ls:=⟨h.sl.adv hb,h.ne⟩
theorem zero_slip_string (i:Nat) (s:ByteArray) : (#[.int .i64 0,.int .i64 0,.int .i64 0,.int .i64 0,.int .i64 0,.int .i64 0,.slice none 0 0] : Array Value)[i]? ≠ some (.string s):=by
 match i with
 | 0=>simp
 | 1=>simp
 | 2=>simp
 | 3=>simp
 | 4=>simp
 | 5=>simp
 | 6=>simp
 | n+7=>simp
theorem SlQ.of {w:World} {q:Nat} {t:TypeId} {A:Option Addr} {ls:List LineT} (h:SliceOf encL 3 w w.heap.size A ls) (hR:Blk w q t #[.int .i64 0,.int .i64 0,.int .i64 0,.int .i64 0,.int .i64 0,.int .i64 0,.slice none 0 0]) : SlQ w q A ls:=by
 refine ⟨h,fun hne a ha hq=>?_⟩
 obtain ⟨b,off,e,hb,hc⟩:=h hne
 obtain ⟨x,r,rfl⟩:=List.exists_cons_of_ne_nil hne
 have h1:=hc 0 x rfl 1 (.string x.code) rfl
 rw [e] at ha
 injection ha with ha
 subst ha
 have hq':b = q:=hq
 subst hq'
 rw [hR.cell] at h1
 exact zero_slip_string _ _ h1
theorem CaseG.in_ {rm:RulesM} {pm:PersonM} {ym:YearM} {kept es : List Elem} (h:CaseG rm pm ym kept es) (first:Bool) : InOk (mkI rm pm ym kept first es):=by
 obtain ⟨k,hk3,hkc,hp,hy⟩:=h.k
 have hper:=hy.per
 have hylen:=hy.len
 refine ⟨h.r.ok,⟨hp.deps.1,by have:=hp.deps.2; show pm.deps≤20; omega,hp.ds.valid,hp.os.ords,?_,?_,?_,?_⟩,⟨?_,?_,?_,?_,hy.inc.1,?_,?_,?_,hy.taken.valid⟩,?_,?_,?_⟩
 ·
  show (pm.es.map EmpC.v).length≤7
  have:=hp.len
  simp; omega
 ·
  intro e he
  obtain ⟨x,hx,rfl⟩:=List.mem_map.1 he
  have:=hp.bas x hx
  show 0≤x.base∧x.base≤_
  omega
 ·
  intro e he
  obtain ⟨x,hx,rfl⟩:=List.mem_map.1 he
  have:=hp.lens x hx
  show x.l.length≤53
  omega
 ·
  intro e he
  obtain ⟨x,hx,rfl⟩:=List.mem_map.1 he
  intro y hy'
  have:=hp.ear x hx y hy'
  omega
 ·
  show 0≤ym.periods
  omega
 ·
  show ym.periods≤53
  omega
 ·
  show (ym.ins.length:Int) = ym.periods
  omega
 ·
  intro x hx
  have:=hy.ins x hx
  omega
 ·
  show ym.income≤ym.periods * 1000000000
  have:=hy.inc.2
  omega
 ·
  show -(ym.periods * 1000000000)≤ym.withheld
  have:=hy.wh.1
  omega
 ·
  show ym.withheld≤ym.periods * 1000000000
  have:=hy.wh.2
  omega
 ·
  rcases h.kept with e | ⟨r,h0,h1,e⟩
  ·
   show KeptOk kept
   rw [e]
   exact ⟨rfl,by simp,by simp⟩
  ·
   show KeptOk kept
   rw [e]
   refine ⟨recB_iff.2 ⟨by simp,fun x hx=>?_,List.pairwise_singleton _ _⟩,by simp,fun x hx=>?_⟩
   ·
    rw [List.mem_singleton] at hx; subst hx
    exact ⟨city_name,h0,by show r≤_; omega⟩
   ·
    rw [List.mem_singleton] at hx; subst hx
    show r≤_
    omega
 ·
  intro e he
  obtain ⟨x,hx,rfl⟩:=List.mem_map.1 he
  have:=hp.lens x hx
  show (x.l.length:Int) = ym.periods
  omega
 ·
  intro x hx
  obtain ⟨⟨y,hy1,hy2⟩,_⟩:=h.e.1 x hx
  rw [hy2]
  exact name_max (names4' _ (h.r.ws.ok y hy1).code)
theorem CaseG.wages {rm:RulesM} {pm:PersonM} {ym:YearM} {kept es : List Elem} (h:CaseG rm pm ym kept es) : ∀ x ∈ rm.ws,x.code ∈ codes4:=fun x hx=>(h.r.ws.ok x hx).code
set_option maxRecDepth 100000 in
set_option maxHeartbeats 8000000 in
theorem slip_any (b M : Nat) (w:World) (hM:M≤100000) (hd:DeckIn w b M) :
  Calls Tryz.prog 12 #[.pointer (some ⟨b,0,none⟩)] w fun e w'=>∃ (c0 c1 c2 c3 c4 c5:Int) (A:Option Addr) (ls:List LineT) (c:Nat),e = .returned (.agg #[.int .i64 c0,.int .i64 c1,.int .i64 c2,.int .i64 c3,.int .i64 c4,.int .i64 c5,.slice A ls.length c])∧SlipZ ls∧SliceOf encL 3 w' w'.heap.size A ls∧DeckIn w' b (M+910)∧w.grownBy w' (some b):=by
 have hlt:=hd.lt
 go_enter Tryz.func12,Tryz.ntmps12
 go_wp2_with fail
 refine (case_any b M 0 (by omega) (by omega) _ (by omega) (hd.alloc _)).mono ?_
 rintro e w1 ⟨rm,pm,ym,Ak,kc,kept,first,E,ec,es,rfl,hcg,_,hRi,hPi,hYi,hKi,hEi,hd1,hg1⟩
 have HCG:=Lib.hid hcg
 have hR1:=(Blk.new w 41 #[.int .i64 0,.int .i64 0,.int .i64 0,.int .i64 0,.int .i64 0,.int .i64 0,.slice none 0 0]).grown hg1 (by intro e; injection e; omega)
 have hG1:=only_trans (only_alloc (only_refl w (some b)) (.cells #[.int .i64 0,.int .i64 0,.int .i64 0,.int .i64 0,.int .i64 0,.int .i64 0,.slice none 0 0] 41)) hg1
 clear hcg hd hg1
 have hbn:=below_new w1 (.cells #[.slice none 0 0,.slice none 0 0,.int .i64 0,.slice none 0 0,.int .i64 0,.int .i64 0,.int .i64 0,.int .i64 0,.slice none 0 0,.int .i64 0,.int .i64 0,.int .i64 0,.int .i64 0,.int .i64 0,.int .i64 0,.int .i64 0,.int .i64 0,.slice none 0 0,.slice none 0 0,.slice none 0 0,.int .i64 0,.int .i64 0,.int .i64 0,.slice none 0 0,.slice none 0 0,.slice none 0 0,.bool false,.slice none 0 0] 83)
 have hz1:w.heap.size < w1.heap.size:=hR1.lt
 go_upto_region 2 with (refine wpList_store_blk rfl _ _ _ rfl rfl w1.heap.size rfl rfl (Blk.new w1 83 #[.slice none 0 0,.slice none 0 0,.int .i64 0,.slice none 0 0,.int .i64 0,.int .i64 0,.int .i64 0,.int .i64 0,.slice none 0 0,.int .i64 0,.int .i64 0,.int .i64 0,.int .i64 0,.int .i64 0,.int .i64 0,.int .i64 0,.int .i64 0,.slice none 0 0,.slice none 0 0,.slice none 0 0,.int .i64 0,.int .i64 0,.int .i64 0,.slice none 0 0,.slice none 0 0,.slice none 0 0,.bool false,.slice none 0 0]) rfl sizeCase rfl ?_; intro w2 hX2 hg2)
 have hb2:Below w1.heap.size w1 w2:=hbn.trans (only_below hg2 (by rw [World.size_alloc]; omega) (fun q e=>by injection e; omega))
 have hR2:=hR1.adv hb2
 have hd2:=hd1.bel hb2
 have hG2:=only_adv hG1 hb2
 have hRi2:=hRi.adv hb2
 have hPi2:=hPi.adv hb2
 have hYi2:=hYi.adv hb2
 have hKi2:=hKi.adv hb2
 have hEi2:=hEi.adv hb2
 clear hR1 hd1 hG1 hRi hPi hYi hKi hEi hb2 hg2 hbn
 generalize w1.heap.size = g at *
 have HPO:=Lib.hid (compute32_ok rm pm ym Ak E kc ec kept es first w2 hRi2 hPi2 hYi2 hKi2 hEi2 (by have:=HCG.out.e.2; omega) (HCG.out.in_ first))
 unfold RulesM.val PersonM.val YearM.val at HPO
 have x0:=hX2.cell 0
 have x1:=hX2.cell 1
 have x2:=hX2.cell 2
 have x3:=hX2.cell 3
 have x4:=hX2.cell 4
 have x5:=hX2.cell 5
 have x6:=hX2.cell 6
 have x7:=hX2.cell 7
 have x8:=hX2.cell 8
 have x9:=hX2.cell 9
 have x10:=hX2.cell 10
 have x11:=hX2.cell 11
 have x12:=hX2.cell 12
 have x13:=hX2.cell 13
 have x14:=hX2.cell 14
 have x15:=hX2.cell 15
 have x16:=hX2.cell 16
 have x17:=hX2.cell 17
 have x18:=hX2.cell 18
 have x19:=hX2.cell 19
 have x20:=hX2.cell 20
 have x21:=hX2.cell 21
 have x22:=hX2.cell 22
 have x23:=hX2.cell 23
 have x24:=hX2.cell 24
 have x25:=hX2.cell 25
 have x26:=hX2.cell 26
 have x27:=hX2.cell 27
 simp only [nqg,nqh,nqi] at x0 x1 x2 x3 x4 x5 x6 x7 x8 x9 x10 x11 x12 x13 x14 x15 x16 x17 x18 x19 x20 x21 x22 x23 x24 x25 x26 x27
 have l1:=hX2.lt
 clear hX2 hRi2 hPi2 hYi2 hKi2 hEi2
 go_wp2_with fail
 refine HPO.out.mono ?_
 clear HPO x0 x1 x2 x3 x4 x5 x6 x7 x8 x9 x10 x11 x12 x13 x14 x15 x16 x17 x18 x19 x20 x21 x22 x23 x24 x25 x26 x27 l1
 rintro e w3 (⟨herr,A,c,Ai,ci,At,ct,rfl,hSL,hSi,hSt,hb3⟩ | ⟨herr,rfl,hb3⟩)
 ·
  have HZ:=Lib.hid ((HCG.out.in_ first).slipZ herr HCG.out.wages)
  clear hSi hSt herr
  have hR3:=hR2.adv hb3
  have hd3:=hd2.bel hb3
  have hG3:=only_adv hG2 hb3
  clear hR2 hd2 hG2 hb3
  generalize mkI rm pm ym kept first es = I at *
  generalize I.lines = ls at *
  have hX4:=(Blk.new w3 41 #[.int .i64 I.b.g,.int .i64 I.b.c,.int .i64 I.b.t,.int .i64 I.b.i,.int .i64 I.b.a,.int .i64 I.legal,.slice A ls.length c]).alloc (.cells #[.int .i64 I.next.periods,.int .i64 I.next.income,.int .i64 I.next.withheld,.slice Ai I.next.insured.length ci,.slice At I.next.taken.length ct] 81)
  have hb4:Below w3.heap.size w3 ((w3.alloc (.cells #[.int .i64 I.b.g,.int .i64 I.b.c,.int .i64 I.b.t,.int .i64 I.b.i,.int .i64 I.b.a,.int .i64 I.legal,.slice A ls.length c] 41)).alloc (.cells #[.int .i64 I.next.periods,.int .i64 I.next.income,.int .i64 I.next.withheld,.slice Ai I.next.insured.length ci,.slice At I.next.taken.length ct] 81)):=(below_new w3 _).alloc (by rw [World.size_alloc]; omega) _
  have hR4:=hR3.adv hb4
  have hd4:=hd3.bel hb4
  have hG4:=only_adv hG3 hb4
  have hS4:=(SlQ.of hSL hR3).adv hb4
  go_upto_region 3 with fail
  clear hb4 hR3 hd3 hG3
  generalize (w3.alloc (.cells #[.int .i64 I.b.g,.int .i64 I.b.c,.int .i64 I.b.t,.int .i64 I.b.i,.int .i64 I.b.a,.int .i64 I.legal,.slice A ls.length c] 41)).alloc (.cells #[.int .i64 I.next.periods,.int .i64 I.next.income,.int .i64 I.next.withheld,.slice Ai I.next.insured.length ci,.slice At I.next.taken.length ct] 81) = w4 at *
  generalize w3.heap.size = g4 at *
  have x0:=hX4.cell 0
  have x1:=hX4.cell 1
  have x2:=hX4.cell 2
  have x3:=hX4.cell 3
  have x4:=hX4.cell 4
  have x5:=hX4.cell 5
  have x6:=hX4.cell 6
  simp only [nqg,nqh,nqi] at x0 x1 x2 x3 x4 x5 x6
  have l1:=hX4.lt
  clear hX4
  have y0:=hR4.cell 0
  have y1:=hR4.cell 1
  have y2:=hR4.cell 2
  have y3:=hR4.cell 3
  have y4:=hR4.cell 4
  have y5:=hR4.cell 5
  have y6:=hR4.cell 6
  simp only [nqg,nqh,nqi] at y0 y1 y2 y3 y4 y5 y6
  have fy0:=hR4.frozen 0
  have fy1:=hR4.frozen 1
  have fy2:=hR4.frozen 2
  have fy3:=hR4.frozen 3
  have fy4:=hR4.frozen 4
  have fy5:=hR4.frozen 5
  have fy6:=hR4.frozen 6
  have l2:=hR4.lt
  have hfin:=hR4.fill [.int .i64 I.b.g,.int .i64 I.b.c,.int .i64 I.b.t,.int .i64 I.b.i,.int .i64 I.b.a,.int .i64 I.legal,.slice A ls.length c] rfl
  simp only [putAll,Nat.zero_add,Nat.reduceAdd] at hfin
  have hdF:=(DeckIn.set (DeckIn.set (DeckIn.set (DeckIn.set (DeckIn.set (DeckIn.set (DeckIn.set hd4 (g:=w.heap.size) hlt 0 (.int .i64 I.b.g)) (g:=w.heap.size) hlt 1 (.int .i64 I.b.c)) (g:=w.heap.size) hlt 2 (.int .i64 I.b.t)) (g:=w.heap.size) hlt 3 (.int .i64 I.b.i)) (g:=w.heap.size) hlt 4 (.int .i64 I.b.a)) (g:=w.heap.size) hlt 5 (.int .i64 I.legal)) (g:=w.heap.size) hlt 6 (.slice A ls.length c))
  have hGF:=(only_setCell (p:=⟨w.heap.size,6,none⟩) (only_setCell (p:=⟨w.heap.size,5,none⟩) (only_setCell (p:=⟨w.heap.size,4,none⟩) (only_setCell (p:=⟨w.heap.size,3,none⟩) (only_setCell (p:=⟨w.heap.size,2,none⟩) (only_setCell (p:=⟨w.heap.size,1,none⟩) (only_setCell (p:=⟨w.heap.size,0,none⟩) hG4 (.inr (Nat.le_refl _)) (.int .i64 I.b.g)) (.inr (Nat.le_refl _)) (.int .i64 I.b.c)) (.inr (Nat.le_refl _)) (.int .i64 I.b.t)) (.inr (Nat.le_refl _)) (.int .i64 I.b.i)) (.inr (Nat.le_refl _)) (.int .i64 I.b.a)) (.inr (Nat.le_refl _)) (.int .i64 I.legal)) (.inr (Nat.le_refl _)) (.slice A ls.length c))
  have hSF:=(((((((hS4.set (g:=w.heap.size) (by omega) 0 (.int .i64 I.b.g)).set (g:=w.heap.size) (by omega) 1 (.int .i64 I.b.c)).set (g:=w.heap.size) (by omega) 2 (.int .i64 I.b.t)).set (g:=w.heap.size) (by omega) 3 (.int .i64 I.b.i)).set (g:=w.heap.size) (by omega) 4 (.int .i64 I.b.a)).set (g:=w.heap.size) (by omega) 5 (.int .i64 I.legal)).set (g:=w.heap.size) (by omega) 6 (.slice A ls.length c))
  clear hR4 hd4 hG4 hS4
  go_wp2_with fail
  generalize World.setCell _ ⟨w.heap.size,6,none⟩ _ = WW at hfin hdF hGF hSF ⊢
  have q0:=hfin.cell 0
  have q1:=hfin.cell 1
  have q2:=hfin.cell 2
  have q3:=hfin.cell 3
  have q4:=hfin.cell 4
  have q5:=hfin.cell 5
  have q6:=hfin.cell 6
  simp only [nqg,nqh,nqi] at q0 q1 q2 q3 q4 q5 q6
  refine bodyPost_ret (v:=.agg #[.int .i64 I.b.g,.int .i64 I.b.c,.int .i64 I.b.t,.int .i64 I.b.i,.int .i64 I.b.a,.int .i64 I.legal,.slice A ls.length c]) ?_ rfl (⟨I.b.g,I.b.c,I.b.t,I.b.i,I.b.a,I.legal,A,ls,c,rfl,HZ.out,hSF.sl,hdF,hGF⟩)
  simp [results,Tryz.results12,go_sem,q0,q1,q2,q3,q4,q5,q6]
 ·
  have hR3:=hR2.adv hb3
  have hd3:=hd2.bel hb3
  have hG3:=only_adv hG2 hb3
  have hSN:SlQ w3 w.heap.size none []:=⟨SliceOf.nil_,by simp⟩
  clear hR2 hd2 hG2 hb3 herr
  generalize mkI rm pm ym kept first es = I at *
  have hX4:=(Blk.new w3 41 #[.int .i64 0,.int .i64 0,.int .i64 0,.int .i64 0,.int .i64 0,.int .i64 0,.slice none 0 0]).alloc (.cells #[.int .i64 0,.int .i64 0,.int .i64 0,.slice none 0 0,.slice none 0 0] 81)
  have hb4:Below w3.heap.size w3 ((w3.alloc (.cells #[.int .i64 0,.int .i64 0,.int .i64 0,.int .i64 0,.int .i64 0,.int .i64 0,.slice none 0 0] 41)).alloc (.cells #[.int .i64 0,.int .i64 0,.int .i64 0,.slice none 0 0,.slice none 0 0] 81)):=(below_new w3 _).alloc (by rw [World.size_alloc]; omega) _
  have hR4:=hR3.adv hb4
  have hd4:=hd3.bel hb4
  have hG4:=only_adv hG3 hb4
  have hS4:=hSN.adv hb4
  go_upto_region 3 with fail
  clear hb4 hR3 hd3 hG3
  generalize (w3.alloc (.cells #[.int .i64 0,.int .i64 0,.int .i64 0,.int .i64 0,.int .i64 0,.int .i64 0,.slice none 0 0] 41)).alloc (.cells #[.int .i64 0,.int .i64 0,.int .i64 0,.slice none 0 0,.slice none 0 0] 81) = w4 at *
  generalize w3.heap.size = g4 at *
  have x0:=hX4.cell 0
  have x1:=hX4.cell 1
  have x2:=hX4.cell 2
  have x3:=hX4.cell 3
  have x4:=hX4.cell 4
  have x5:=hX4.cell 5
  have x6:=hX4.cell 6
  simp only [nqg,nqh,nqi] at x0 x1 x2 x3 x4 x5 x6
  have l1:=hX4.lt
  clear hX4
  have y0:=hR4.cell 0
  have y1:=hR4.cell 1
  have y2:=hR4.cell 2
  have y3:=hR4.cell 3
  have y4:=hR4.cell 4
  have y5:=hR4.cell 5
  have y6:=hR4.cell 6
  simp only [nqg,nqh,nqi] at y0 y1 y2 y3 y4 y5 y6
  have fy0:=hR4.frozen 0
  have fy1:=hR4.frozen 1
  have fy2:=hR4.frozen 2
  have fy3:=hR4.frozen 3
  have fy4:=hR4.frozen 4
  have fy5:=hR4.frozen 5
  have fy6:=hR4.frozen 6
  have l2:=hR4.lt
  have hfin:=hR4.fill [.int .i64 0,.int .i64 0,.int .i64 0,.int .i64 0,.int .i64 0,.int .i64 0,.slice none 0 0] rfl
  simp only [putAll,Nat.zero_add,Nat.reduceAdd] at hfin
  have hdF:=(DeckIn.set (DeckIn.set (DeckIn.set (DeckIn.set (DeckIn.set (DeckIn.set (DeckIn.set hd4 (g:=w.heap.size) hlt 0 (.int .i64 0)) (g:=w.heap.size) hlt 1 (.int .i64 0)) (g:=w.heap.size) hlt 2 (.int .i64 0)) (g:=w.heap.size) hlt 3 (.int .i64 0)) (g:=w.heap.size) hlt 4 (.int .i64 0)) (g:=w.heap.size) hlt 5 (.int .i64 0)) (g:=w.heap.size) hlt 6 (.slice none 0 0))
  have hGF:=(only_setCell (p:=⟨w.heap.size,6,none⟩) (only_setCell (p:=⟨w.heap.size,5,none⟩) (only_setCell (p:=⟨w.heap.size,4,none⟩) (only_setCell (p:=⟨w.heap.size,3,none⟩) (only_setCell (p:=⟨w.heap.size,2,none⟩) (only_setCell (p:=⟨w.heap.size,1,none⟩) (only_setCell (p:=⟨w.heap.size,0,none⟩) hG4 (.inr (Nat.le_refl _)) (.int .i64 0)) (.inr (Nat.le_refl _)) (.int .i64 0)) (.inr (Nat.le_refl _)) (.int .i64 0)) (.inr (Nat.le_refl _)) (.int .i64 0)) (.inr (Nat.le_refl _)) (.int .i64 0)) (.inr (Nat.le_refl _)) (.int .i64 0)) (.inr (Nat.le_refl _)) (.slice none 0 0))
  have hSF:=(((((((hS4.set (g:=w.heap.size) (by omega) 0 (.int .i64 0)).set (g:=w.heap.size) (by omega) 1 (.int .i64 0)).set (g:=w.heap.size) (by omega) 2 (.int .i64 0)).set (g:=w.heap.size) (by omega) 3 (.int .i64 0)).set (g:=w.heap.size) (by omega) 4 (.int .i64 0)).set (g:=w.heap.size) (by omega) 5 (.int .i64 0)).set (g:=w.heap.size) (by omega) 6 (.slice none 0 0))
  clear hR4 hd4 hG4 hS4
  go_wp2_with fail
  generalize World.setCell _ ⟨w.heap.size,6,none⟩ _ = WW at hfin hdF hGF hSF ⊢
  have q0:=hfin.cell 0
  have q1:=hfin.cell 1
  have q2:=hfin.cell 2
  have q3:=hfin.cell 3
  have q4:=hfin.cell 4
  have q5:=hfin.cell 5
  have q6:=hfin.cell 6
  simp only [nqg,nqh,nqi] at q0 q1 q2 q3 q4 q5 q6
  refine bodyPost_ret (v:=.agg #[.int .i64 0,.int .i64 0,.int .i64 0,.int .i64 0,.int .i64 0,.int .i64 0,.slice none 0 0]) ?_ rfl (⟨0,0,0,0,0,0,none,[],0,rfl,SlipZ.nil_,hSF.sl,hdF,hGF⟩)
  simp [results,Tryz.results12,go_sem,q0,q1,q2,q3,q4,q5,q6]
end Go.Proofs.YtjncpgbhokjbfaaGreat
namespace Go.Proofs.YtjncpgbhokjbfaaGreat
open Go.ChangeShapes Go.WideShapes Go.ChangeAt Go.RowKit Go.Deep
section
variable {H:Type} {enc:TypeId × Value→H} {P:Program} {w:World} {base:Nat} {spare:Nat→Bool} {held:Bool}
end
theorem list_of {α:Type} {encA:α→List Value} {k:Nat} {w:World} (hk : ∀ x,(encA x).length = k) (hk0:0 < k) (Q:α→Prop) (a:Addr) (len:Nat)
  (h:∀ i,i < len→∃ x,Q x∧∀ j v,(encA x)[j]? = some v→w.cell? (a.add (i * k+j)) = some v) :
  ∃ xs:List α,xs.length = len∧(∀ x ∈ xs,Q x)∧SliceOf encA k w w.heap.size (some a) xs:=by
 have h':∃ xs:List α,xs.length = len∧(∀ x ∈ xs,Q x)∧∀ i x,xs[i]? = some x→∀ j v,(encA x)[j]? = some v→w.cell? (a.add (i * k+j)) = some v:=by
  induction len with
  | zero=>exact ⟨[],rfl,by simp,by simp⟩
  | succ n ih =>
   obtain ⟨xs,h1,h2,h3⟩:=ih (fun i hi=>h i (by omega))
   obtain ⟨x,hx1,hx2⟩:=h n (by omega)
   refine ⟨xs++[x],by simp [h1],fun y hy=>?_,fun i y hi j v hj=>?_⟩
   ·
    rcases List.mem_append.1 hy with h4 | h4
    ·
     exact h2 y h4
    ·
     simp at h4; subst h4; exact hx1
   ·
    rcases Nat.lt_or_ge i xs.length with h4 | h4
    ·
     rw [List.getElem?_append_left h4] at hi; exact h3 i y hi j v hj
    ·
     rw [List.getElem?_append_right h4] at hi
     have h5:i - xs.length = 0:=by
      have:=(List.getElem?_eq_some_iff.1 hi).1
      simp at this; exact this
     rw [h5] at hi
     simp at hi
     subst hi
     obtain rfl:i = n:=by omega
     exact hx2 j v hj
 obtain ⟨xs,h1,h2,h3⟩:=h'
 refine ⟨xs,h1,h2,fun hne=>?_⟩
 obtain ⟨b,off,spot⟩:=a
 have hpos:0 < xs.length:=List.length_pos_iff.2 hne
 have hx0:=List.getElem?_eq_getElem hpos
 have hv0 : (encA xs[0])[0]? = some ((encA xs[0])[0]'(by rw [hk]; exact hk0)) := List.getElem?_eq_getElem _
 have hc0:=h3 0 _ hx0 0 _ hv0
 simp only [Nat.zero_mul,Nat.zero_add,Addr.add,if_true] at hc0
 have hspot:spot = none:=by simpa using World.cell?_spot hc0
 subst hspot
 have hb:b < w.heap.size:=World.block_lt_of_cell? w ⟨b,off,none⟩ hc0
 refine ⟨b,off,rfl,hb,fun i x hi j v hj=>?_⟩
 have:=h3 i x hi j v hj
 have hadd:(⟨b,off,none⟩ : Addr).add (i * k+j) = ⟨b,off+i * k+j,none⟩:=by
  unfold Addr.add
  split
  ·
   rename_i h0
   have h1:i * k = 0:=by omega
   have h2:j = 0:=by omega
   subst h2; simp
  ·
   simp [Nat.add_assoc]
 rw [hadd] at this
 exact this
theorem wf_I64 {n:Int} (h : (Lit.int .i64 n).wf = true) : I64 n:=by
 simp [Lit.wf,IntKind.min,IntKind.max,IntKind.signed,IntKind.bits] at h
 exact ⟨by omega,by omega⟩
theorem openI {H:Type} {enc:TypeId × Value→H} {W:World} {a:Option Addr} {len cap : Nat} {d:DataW H} {p:List MemPlace} (h:DataW.Trod enc Tryz.prog W 0 (fun _=>true) true 22 (.slice a len cap) d p) :
  ∃ xs:List Int,xs.length = len∧SliceOf encI 1 W W.heap.size a xs∧(∀ x ∈ xs,I64 x)∧len≤cap∧cap≤maxLen:=by
 obtain ⟨fuel,hf⟩:=h
 rcases open_ints Tryz.underlying22 Tryz.underlying3 (by kernel_rfl) hf with ⟨hcs,_⟩ | ⟨x,l,c,zs,hcs,_,hl,hm,hz,_,hcell,hwz⟩
 ·
  simp [Value.cells] at hcs
  obtain ⟨rfl,rfl,rfl⟩:=hcs
  exact ⟨[],rfl,SliceOf.nil_,by simp,by omega,by unfold maxLen; omega⟩
 ·
  simp [Value.cells] at hcs
  obtain ⟨rfl,rfl,rfl⟩:=hcs
  have hz':zs.length = cap:=by simpa using hz
  have hh:∀ i,i < len→∃ y:Int,I64 y∧∀ j v,(encI y)[j]? = some v→W.cell? (x.add (i * 1+j)) = some v:=by
   intro i hi'
   refine ⟨zs.getD i 0,?_,fun j v hj=>?_⟩
   ·
    apply wf_I64
    apply hwz
    rw [List.getD_eq_getElem?_getD,List.getElem?_eq_getElem (by omega)]
    exact List.getElem_mem _
   ·
    match j,hj with
    | 0,hj =>
     simp [encI] at hj
     subst hj
     have:=hcell i (by omega)
     simpa using this
    | (n+1),hj=>simp [encI] at hj
  obtain ⟨xs,h1,h2,h3⟩:=list_of (k:=1) (encA:=encI) (fun _=>rfl) Nat.one_pos _ x len hh
  exact ⟨xs,h1,h3,h2,hl,hm⟩
end Go.Proofs.YtjncpgbhokjbfaaGreat
