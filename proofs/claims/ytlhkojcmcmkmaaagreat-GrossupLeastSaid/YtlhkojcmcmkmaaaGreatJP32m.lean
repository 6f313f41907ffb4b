/- Joined texts: P32m. Conditions: as stated. -/
import Derived.Test.YtlhkojcmcmkmaaaGreatJP32l
import Derived.Test.YtlhkojcmcmkmaaaGreatJP31d
import Derived.Test.YtlhkojcmcmkmaaaGreatJP30
import Derived.Test.YtlhkojcmcmkmaaaGreatJP32g
import Derived.Test.YtlhkojcmcmkmaaaGreatJMapS
import Derived.Test.YtlhkojcmcmkmaaaGreatJP32
namespace Go.Proofs.YtlhkojcmcmkmaaaGreat
open Go.RowKit Go.Sort Go.Shelf
theorem errN_3 {I:NetIn} (h:I.r.count≤I.y.periods) : I.err = 3:=by unfold NetIn.err; rw [if_pos h]
theorem errN_of {I:NetIn} (h:I.y.periods < I.r.count) {n:Int} (ho:ofErr I.r.wages I.e (sumsP I.e) = n) (hn:n ≠ 0) : I.err = n:=by unfold NetIn.err; rw [if_neg (by omega),ho,if_pos hn]
theorem sizeCalc : (Tryz.prog.info? 103).map (·.size) = some 42:=by kernel_rfl
theorem wpList_val {P:Program} {ops:Array Oper} {rest:List Oper} {op:Oper} {a:Act} {w:World} {Q:Exit→Act→World→Prop} (hgd:op.guard = none) (v:Value) (w' : World) (hrun : (execOp a.eval op).run P w = .ok (.value v) w') (h:wpList P ops Q rest (a.put op.dst v) w') : wpList P ops Q (op :: rest) a w :=
 wpList_plain hgd fun K hK=>by unfold Oper.wp; rw [hrun]; exact hK _ _ h
def zCal : CalS:=⟨zeroB,.slice none 0 0,0,.slice none 0 0,.slice none 0 0,.slice none 0 0,0,0,0,0,0⟩
def calZ : Array Value:=#[.slice none 0 0,.slice none 0 0,.int .i64 0,.slice none 0 0,.int .i64 0,.int .i64 0,.int .i64 0,.int .i64 0,.slice none 0 0,.int .i64 0,.int .i64 0,.int .i64 0,.int .i64 0,.int .i64 0,.int .i64 0,.int .i64 0,.int .i64 0,.slice none 0 0,.slice none 0 0,.slice none 0 0,.int .i64 0,.int .i64 0,.int .i64 0,.slice none 0 0,.slice none 0 0,.slice none 0 0,.bool false,.int .i64 0,.int .i64 0,.int .i64 0,.int .i64 0,.int .i64 0,.slice none 0 0,.int .i64 0,.slice none 0 0,.slice none 0 0,.slice none 0 0,.int .i64 0,.int .i64 0,.int .i64 0,.int .i64 0,.int .i64 0]
def SlipPostF (I:NetIn) (w:World) (e:Ending) (w' : World) : Prop :=
 SlipPost I w e w'∧∀ s0 s1 s2 s3 s4 s5 A n c y0 y1 y2 B m d t er,e = .returned (.tuple #[.agg #[s0,s1,s2,s3,s4,s5,.slice A n c],.agg #[y0,y1,y2,.slice B m d,t],er])→(∀ a,A = some a→w.heap.size≤a.block)∧∀ a,B = some a→w.heap.size≤a.block
theorem SlipPostF.fail {I:NetIn} {w w' : World} {n:Int} (h:I.err = n) (hn:n ≠ 0) (hb:Below w.heap.size w w') : SlipPostF I w (.returned (.tuple #[.agg #[.int .i64 0,.int .i64 0,.int .i64 0,.int .i64 0,.int .i64 0,.int .i64 0,.slice none 0 0],.agg #[.int .i64 0,.int .i64 0,.int .i64 0,.slice none 0 0,.slice none 0 0],.int .i64 n])) w' :=
 ⟨SlipPost.fail h hn hb,fun s0 s1 s2 s3 s4 s5 A n c y0 y1 y2 B m d t er e=>by
  injection e with e
  injection e with e
  simp only [Array.mk.injEq,List.cons.injEq,Value.agg.injEq,Value.slice.injEq,and_true] at e
  obtain ⟨⟨_,_,_,_,_,_,rfl,_⟩,⟨_,_,_,⟨rfl,_⟩,_⟩,_⟩:=e
  exact ⟨nofun,nofun⟩⟩
set_option maxRecDepth 100000 in
set_option maxHeartbeats 8000000 in
theorem compute_okF (r:RulesM) (p:PersonM) (y:YearM) (Ak E : Option Addr) (kc ec : Nat) (kept e : List Elem) (first:Bool) (w:World) (hr:r.In w) (hp:p.In w) (hy:y.In w) (hk:SliceOf encE 2 w w.heap.size Ak kept) (he:SliceOf encE 2 w w.heap.size E e) (hel:e.length≤1000000) (hok:InOk (mkI r p y kept first e)) :
  Calls Tryz.prog 21 #[r.val,p.val,y.val,.slice Ak kept.length kc,.bool first,.slice E e.length ec] w (SlipPostF (mkI r p y kept first e) w):=by
 obtain ⟨I,hI⟩ : ∃ I,I = mkI r p y kept first e:=⟨_,rfl⟩
 rw [← hI] at hok ⊢
 have hIr:I.r = r.t:=by rw [hI]; rfl
 have hIp:I.p = p.t:=by rw [hI]; rfl
 have hIy:I.y = y.t:=by rw [hI]; rfl
 have hIk:I.kept = kept:=by rw [hI]; rfl
 have hIe:I.e = e:=by rw [hI]; rfl
 have hfi:I.first = first:=by rw [hI]; rfl
 clear hI
 subst hIk hIe
 have hrk:=hok.r
 rw [hIr] at hrk
 have hpk:=hok.p
 rw [hIp] at hpk
 have hyk:=hok.y
 rw [hIy] at hyk
 have hsame:∀ x ∈ p.es,(x.l.length:Int) = y.periods:=fun x hx=>by
  have:=hok.same x.v (by rw [hIp]; exact List.mem_map.2 ⟨x,hx,rfl⟩)
  rw [hIy] at this
  exact this
 have HCK:Hid (∀ W',Below w.heap.size w W'→Calls Tryz.prog 51 #[.agg #[.slice r.Aw r.ws.length r.cw,.slice r.As r.ss.length r.cs,.int .i64 r.tm.t.method,.slice r.tm.Ab r.tm.t.brs.length r.tm.cb,.int .i64 r.tm.t.allowance,.int .i64 r.tm.t.credit,.int .i64 r.tm.t.unit,.int .i64 r.tm.t.mode,.slice r.tm.Ar r.tm.t.rows.length r.tm.cr,.int .i64 r.count,.int .i64 r.sh.fixed,.int .i64 r.sh.dependent,.int .i64 r.sh.lower,.int .i64 r.sh.share,.int .i64 r.sh.top,.int .i64 r.recover],.agg #[.int .i64 p.deps,.slice p.Ad p.ds.length p.cd,.slice p.Ao p.os.length p.co,.slice p.Ae p.es.length p.ce],.agg #[.int .i64 y.periods,.int .i64 y.income,.int .i64 y.withheld,.slice y.Ai y.ins.length y.ci,.slice y.At y.taken.length y.ct],.slice Ak I.kept.length kc] W' fun e w'=>e = .returned (.int .i64 (chkE y.periods r.count))∧Below W'.heap.size W' w'):=fun W' hb=>argP32 r p y Ak kc I.kept W' (hr.adv hb) (hp.adv hb) (hy.adv hb) (hk.adv hb) hrk hpk hyk hok.kept hsame
 have hvw:validB r.ws = true:=hrk.wages
 have hws:I.r.wages = r.ws:=by rw [hIr]; rfl
 have hcp:(I.r.count = r.count)∧I.y.periods = y.periods:=by rw [hIr,hIy]; exact ⟨rfl,rfl⟩
 have HOK:=Lib.hid hok
 have HIR:=Lib.hid hIr
 have HIP:=Lib.hid hIp
 have HIY:=Lib.hid hIy
 have HFI:=Lib.hid hfi
 have HWS:=Lib.hid hws
 have HCP:=Lib.hid hcp
 have HVW:=Lib.hid hvw
 have HHR:=Lib.hid hr
 have HHP:=Lib.hid hp
 have HHY:=Lib.hid hy
 have HHK:=Lib.hid hk
 have HHE:=Lib.hid he
 clear hok hIr hIp hIy hfi hws hcp hrk hpk hyk hsame hvw hr hp hy hk he
 unfold RulesM.val PersonM.val YearM.val
 go_enter Tryz.func21,Tryz.ntmps21
 have hBr:=((((Blk.new w 45 #[.slice r.Aw r.ws.length r.cw,.slice r.As r.ss.length r.cs,.int .i64 r.tm.t.method,.slice r.tm.Ab r.tm.t.brs.length r.tm.cb,.int .i64 r.tm.t.allowance,.int .i64 r.tm.t.credit,.int .i64 r.tm.t.unit,.int .i64 r.tm.t.mode,.slice r.tm.Ar r.tm.t.rows.length r.tm.cr,.int .i64 r.count,.int .i64 r.sh.fixed,.int .i64 r.sh.dependent,.int .i64 r.sh.lower,.int .i64 r.sh.share,.int .i64 r.sh.top,.int .i64 r.recover]).alloc (.cells #[.int .i64 p.deps,.slice p.Ad p.ds.length p.cd,.slice p.Ao p.os.length p.co,.slice p.Ae p.es.length p.ce] 50)).alloc (.cells #[.int .i64 y.periods,.int .i64 y.income,.int .i64 y.withheld,.slice y.Ai y.ins.length y.ci,.slice y.At y.taken.length y.ct] 53)).alloc (.cells #[.int .i64 0,.int .i64 0,.int .i64 0,.int .i64 0,.int .i64 0,.int .i64 0,.slice none 0 0] 27)).alloc (.cells #[.int .i64 0,.int .i64 0,.int .i64 0,.slice none 0 0,.slice none 0 0] 53)
 have hBp:=(((Blk.new (w.alloc (.cells #[.slice r.Aw r.ws.length r.cw,.slice r.As r.ss.length r.cs,.int .i64 r.tm.t.method,.slice r.tm.Ab r.tm.t.brs.length r.tm.cb,.int .i64 r.tm.t.allowance,.int .i64 r.tm.t.credit,.int .i64 r.tm.t.unit,.int .i64 r.tm.t.mode,.slice r.tm.Ar r.tm.t.rows.length r.tm.cr,.int .i64 r.count,.int .i64 r.sh.fixed,.int .i64 r.sh.dependent,.int .i64 r.sh.lower,.int .i64 r.sh.share,.int .i64 r.sh.top,.int .i64 r.recover] 45)) 50 #[.int .i64 p.deps,.slice p.Ad p.ds.length p.cd,.slice p.Ao p.os.length p.co,.slice p.Ae p.es.length p.ce]).alloc (.cells #[.int .i64 y.periods,.int .i64 y.income,.int .i64 y.withheld,.slice y.Ai y.ins.length y.ci,.slice y.At y.taken.length y.ct] 53)).alloc (.cells #[.int .i64 0,.int .i64 0,.int .i64 0,.int .i64 0,.int .i64 0,.int .i64 0,.slice none 0 0] 27)).alloc (.cells #[.int .i64 0,.int .i64 0,.int .i64 0,.slice none 0 0,.slice none 0 0] 53)
 have hBy:=((Blk.new ((w.alloc (.cells #[.slice r.Aw r.ws.length r.cw,.slice r.As r.ss.length r.cs,.int .i64 r.tm.t.method,.slice r.tm.Ab r.tm.t.brs.length r.tm.cb,.int .i64 r.tm.t.allowance,.int .i64 r.tm.t.credit,.int .i64 r.tm.t.unit,.int .i64 r.tm.t.mode,.slice r.tm.Ar r.tm.t.rows.length r.tm.cr,.int .i64 r.count,.int .i64 r.sh.fixed,.int .i64 r.sh.dependent,.int .i64 r.sh.lower,.int .i64 r.sh.share,.int .i64 r.sh.top,.int .i64 r.recover] 45)).alloc (.cells #[.int .i64 p.deps,.slice p.Ad p.ds.length p.cd,.slice p.Ao p.os.length p.co,.slice p.Ae p.es.length p.ce] 50)) 53 #[.int .i64 y.periods,.int .i64 y.income,.int .i64 y.withheld,.slice y.Ai y.ins.length y.ci,.slice y.At y.taken.length y.ct]).alloc (.cells #[.int .i64 0,.int .i64 0,.int .i64 0,.int .i64 0,.int .i64 0,.int .i64 0,.slice none 0 0] 27)).alloc (.cells #[.int .i64 0,.int .i64 0,.int .i64 0,.slice none 0 0,.slice none 0 0] 53)
 have hBs:=(Blk.new (((w.alloc (.cells #[.slice r.Aw r.ws.length r.cw,.slice r.As r.ss.length r.cs,.int .i64 r.tm.t.method,.slice r.tm.Ab r.tm.t.brs.length r.tm.cb,.int .i64 r.tm.t.allowance,.int .i64 r.tm.t.credit,.int .i64 r.tm.t.unit,.int .i64 r.tm.t.mode,.slice r.tm.Ar r.tm.t.rows.length r.tm.cr,.int .i64 r.count,.int .i64 r.sh.fixed,.int .i64 r.sh.dependent,.int .i64 r.sh.lower,.int .i64 r.sh.share,.int .i64 r.sh.top,.int .i64 r.recover] 45)).alloc (.cells #[.int .i64 p.deps,.slice p.Ad p.ds.length p.cd,.slice p.Ao p.os.length p.co,.slice p.Ae p.es.length p.ce] 50)).alloc (.cells #[.int .i64 y.periods,.int .i64 y.income,.int .i64 y.withheld,.slice y.Ai y.ins.length y.ci,.slice y.At y.taken.length y.ct] 53)) 27 #[.int .i64 0,.int .i64 0,.int .i64 0,.int .i64 0,.int .i64 0,.int .i64 0,.slice none 0 0]).alloc (.cells #[.int .i64 0,.int .i64 0,.int .i64 0,.slice none 0 0,.slice none 0 0] 53)
 have hBn:=Blk.new ((((w.alloc (.cells #[.slice r.Aw r.ws.length r.cw,.slice r.As r.ss.length r.cs,.int .i64 r.tm.t.method,.slice r.tm.Ab r.tm.t.brs.length r.tm.cb,.int .i64 r.tm.t.allowance,.int .i64 r.tm.t.credit,.int .i64 r.tm.t.unit,.int .i64 r.tm.t.mode,.slice r.tm.Ar r.tm.t.rows.length r.tm.cr,.int .i64 r.count,.int .i64 r.sh.fixed,.int .i64 r.sh.dependent,.int .i64 r.sh.lower,.int .i64 r.sh.share,.int .i64 r.sh.top,.int .i64 r.recover] 45)).alloc (.cells #[.int .i64 p.deps,.slice p.Ad p.ds.length p.cd,.slice p.Ao p.os.length p.co,.slice p.Ae p.es.length p.ce] 50)).alloc (.cells #[.int .i64 y.periods,.int .i64 y.income,.int .i64 y.withheld,.slice y.Ai y.ins.length y.ci,.slice y.At y.taken.length y.ct] 53)).alloc (.cells #[.int .i64 0,.int .i64 0,.int .i64 0,.int .i64 0,.int .i64 0,.int .i64 0,.slice none 0 0] 27)) 53 #[.int .i64 0,.int .i64 0,.int .i64 0,.slice none 0 0,.slice none 0 0]
 have hbel:=bel_alloc (bel_alloc (bel_alloc (bel_alloc (below_new w (.cells #[.slice r.Aw r.ws.length r.cw,.slice r.As r.ss.length r.cs,.int .i64 r.tm.t.method,.slice r.tm.Ab r.tm.t.brs.length r.tm.cb,.int .i64 r.tm.t.allowance,.int .i64 r.tm.t.credit,.int .i64 r.tm.t.unit,.int .i64 r.tm.t.mode,.slice r.tm.Ar r.tm.t.rows.length r.tm.cr,.int .i64 r.count,.int .i64 r.sh.fixed,.int .i64 r.sh.dependent,.int .i64 r.sh.lower,.int .i64 r.sh.share,.int .i64 r.sh.top,.int .i64 r.recover] 45)) (.cells #[.int .i64 p.deps,.slice p.Ad p.ds.length p.cd,.slice p.Ao p.os.length p.co,.slice p.Ae p.es.length p.ce] 50)) (.cells #[.int .i64 y.periods,.int .i64 y.income,.int .i64 y.withheld,.slice y.Ai y.ins.length y.ci,.slice y.At y.taken.length y.ct] 53)) (.cells #[.int .i64 0,.int .i64 0,.int .i64 0,.int .i64 0,.int .i64 0,.int .i64 0,.slice none 0 0] 27)) (.cells #[.int .i64 0,.int .i64 0,.int .i64 0,.slice none 0 0,.slice none 0 0] 53)
 simp only [World.size_alloc] at hBr hBp hBy hBs hBn
 go_upto_region 1 with fail
 generalize World.alloc _ (Obj.cells #[.int .i64 0,.int .i64 0,.int .i64 0,.slice none 0 0,.slice none 0 0] 53) = W at hBr hBp hBy hBs hBn hbel ⊢
 have hgs0:w.heap.size≤w.heap.size+1+1+1:=by omega
 have hgn0:w.heap.size≤w.heap.size+1+1+1+1:=by omega
 have hne:w.heap.size+1+1+1 ≠ w.heap.size+1+1+1+1:=by omega
 generalize w.heap.size+1+1+1+1 = gn at *
 generalize w.heap.size+1+1+1 = gs at *
 have a0:=hBr.cell 0
 have a1:=hBr.cell 1
 have a2:=hBr.cell 2
 have a3:=hBr.cell 3
 have a4:=hBr.cell 4
 have a5:=hBr.cell 5
 have a6:=hBr.cell 6
 have a7:=hBr.cell 7
 have a8:=hBr.cell 8
 have a9:=hBr.cell 9
 have a10:=hBr.cell 10
 have a11:=hBr.cell 11
 have a12:=hBr.cell 12
 have a13:=hBr.cell 13
 have a14:=hBr.cell 14
 have a15:=hBr.cell 15
 simp only [nqg,nqh,nqi] at a0 a1 a2 a3 a4 a5 a6 a7 a8 a9 a10 a11 a12 a13 a14 a15
 have b0:=hBp.cell 0
 have b1:=hBp.cell 1
 have b2:=hBp.cell 2
 have b3:=hBp.cell 3
 simp only [nqg,nqh,nqi] at b0 b1 b2 b3
 have d0:=hBy.cell 0
 have d1:=hBy.cell 1
 have d2:=hBy.cell 2
 have d3:=hBy.cell 3
 have d4:=hBy.cell 4
 simp only [nqg,nqh,nqi] at d0 d1 d2 d3 d4
 go_wp2_with fail
 refine (HCK.out _ hbel).mono ?_
 rintro x w1 ⟨rfl,hb1⟩
 have hbel1:=bel_adv hbel hb1
 have hBr1:=hBr.adv hb1
 have hBp1:=hBp.adv hb1
 have hBy1:=hBy.adv hb1
 have hBs1:=hBs.adv hb1
 have hBn1:=hBn.adv hb1
 have lgs:=hBs1.lt
 have lgn:=hBn1.lt
 clear hBr hBp hBy hBs hBn hbel hb1 a0 a1 a2 a3 a4 a5 a6 a7 a8 a9 a10 a11 a12 a13 a14 a15 b0 b1 b2 b3 d0 d1 d2 d3 d4 HCK
 by_cases hper:r.count≤y.periods
 ·
  have HE:Hid (chkE y.periods r.count = 3):=by rw [Hid,chkE,if_pos hper]
  have HER:Hid (I.err = 3):=errN_3 (by have:=HCP.out; omega)
  rw [HE.out]
  have hbr:=Below.refl w1.heap.size w1
  clear hBr1 hBp1 hBy1
  have hbsE:=hBs1.below hbr lgs
  have hbnE:=hBn1.below hbr lgn
  have hzf:=zeroed_facts hbsE hbnE hne
  have hzb:=zeroed_below (hbel1.trans ((hbr).mono hbel1.size)) hgs0 hgn0 w1
  have hne':gn ≠ gs:=fun e=>hne e.symm
  have q0:=hbsE.cell 0
  have q1:=hbsE.cell 1
  have q2:=hbsE.cell 2
  have q3:=hbsE.cell 3
  have q4:=hbsE.cell 4
  have q5:=hbsE.cell 5
  have q6:=hbsE.cell 6
  simp only [nqg,nqh,nqi] at q0 q1 q2 q3 q4 q5 q6
  have r0:=hbnE.cell 0
  have r1:=hbnE.cell 1
  have r2:=hbnE.cell 2
  have r3:=hbnE.cell 3
  have r4:=hbnE.cell 4
  simp only [nqg,nqh,nqi] at r0 r1 r2 r3 r4
  have fq0:=hbsE.frozen 0
  have fq1:=hbsE.frozen 1
  have fq2:=hbsE.frozen 2
  have fq3:=hbsE.frozen 3
  have fq4:=hbsE.frozen 4
  have fq5:=hbsE.frozen 5
  have fq6:=hbsE.frozen 6
  have fr0:=hbnE.frozen 0
  have fr1:=hbnE.frozen 1
  have fr2:=hbnE.frozen 2
  have fr3:=hbnE.frozen 3
  have fr4:=hbnE.frozen 4
  have lq:=hbsE.lt
  have lr:=hbnE.lt
  go_wp2
  clear q0 q1 q2 q3 q4 q5 q6 r0 r1 r2 r3 r4
  change bodyPost _ _ _ _ _ (zeroed w1 gs gn)
  obtain ⟨hzs,hzn⟩:=hzf
  generalize zeroed w1 gs gn = WW at hzs hzn hzb ⊢
  have q0:=hzs.cell 0
  have q1:=hzs.cell 1
  have q2:=hzs.cell 2
  have q3:=hzs.cell 3
  have q4:=hzs.cell 4
  have q5:=hzs.cell 5
  have q6:=hzs.cell 6
  simp only [nqg,nqh,nqi] at q0 q1 q2 q3 q4 q5 q6
  have r0:=hzn.cell 0
  have r1:=hzn.cell 1
  have r2:=hzn.cell 2
  have r3:=hzn.cell 3
  have r4:=hzn.cell 4
  simp only [nqg,nqh,nqi] at r0 r1 r2 r3 r4
  clear hzs hzn
  refine bodyPost_ret (v:=_) (by simp [results,Tryz.results21,go_sem,q0,q1,q2,q3,q4,q5,q6,r0,r1,r2,r3,r4]; rfl) rfl ?_
  exact SlipPostF.fail (HER.out) (by omega) hzb
 have hper2:I.y.periods < I.r.count:=by have:=HCP.out; omega
 have HE:Hid (chkE y.periods r.count = 0):=by rw [Hid,chkE,if_neg hper]
 rw [HE.out]
 clear HE
 go_upto_region 4 with fail
 go_step
 refine wpList_load_blk rfl _ _ rfl w.heap.size rfl hBr1 Tryz.underlying45 rfl (by kernel_rfl) ?_
 refine wpList_load_blk rfl _ _ rfl (w.heap.size+1) rfl hBp1 Tryz.underlying50 rfl (by kernel_rfl) ?_
 refine wpList_load_blk rfl _ _ rfl (w.heap.size+1+1) rfl hBy1 Tryz.underlying53 rfl (by kernel_rfl) ?_
 refine wpList_val rfl (.slice Ak I.kept.length kc) w1 rfl ?_
 refine wpList_val rfl (.bool first) w1 rfl ?_
 refine wpList_val rfl (.agg (calC ⟨r,p,y,Ak,kc,I.kept,first⟩ zCal)) w1 (by kernel_rfl) ?_
 refine wpList_val rfl (.pointer (some ⟨w1.heap.size,0,none⟩)) (w1.alloc (.cells calZ 103)) (by kernel_rfl) ?_
 refine wpList_store_blk rfl _ _ _ rfl rfl w1.heap.size (cs:=calZ) (vs:=calC ⟨r,p,y,Ak,kc,I.kept,first⟩ zCal) (by kernel_rfl) (by kernel_rfl) (Blk.new w1 103 calZ) rfl sizeCalc rfl ?_
 intro W5 hBc hg5
 have hbn:RowKit.Below w1.heap.size w1 W5:=(below_new w1 (.cells calZ 103)).trans (only_below hg5 (by rw [World.size_alloc]; omega) (fun q e=>by injection e; omega))
 clear hBr1 hBp1 hBy1
 have hI0:CalI w1 w1.heap.size ⟨r,p,y,Ak,kc,I.kept,first⟩ zCal [] W5:=⟨hBc,Nat.le_refl _,hbn,Own.nil_ _ _,fun e=>by cases e⟩
 clear hBc hbn hg5
 have HR1:=Lib.hid (HHR.out.adv hbel1)
 have HP1:=Lib.hid (HHP.out.adv hbel1)
 have HY1:=Lib.hid (HHY.out.adv hbel1)
 have HK1:=Lib.hid (HHK.out.adv hbel1)
 have HE1:=Lib.hid (HHE.out.adv hbel1)
 clear HHR HHP HHY HHK HHE
 go_wp2_with fail
 refine (earnMP32 hI0 HR1.out E ec I.e HE1.out HVW.out HOK.out.size hel (by simp)).mono ?_
 rintro x w6 ⟨rfl,hb6,hK6⟩
 clear hI0
 have hofe:ofErr I.r.wages I.e (sumsP I.e) = ofErr r.ws I.e (sumsP I.e):=by rw [HWS.out]
 by_cases ho:ofErr r.ws I.e (sumsP I.e) = 0
 rotate_left
 ·
  have HER:Hid (I.err = ofErr r.ws I.e (sumsP I.e)):=errN_of hper2 hofe (by rw [hofe] at *; exact ho)
  clear hK6 hofe
  generalize ofErr r.ws I.e (sumsP I.e) = er at *
  have hner:(er != 0) = true:=by simp [ho]
  have hbsE:=hBs1.below hb6 lgs
  have hbnE:=hBn1.below hb6 lgn
  have hzf:=zeroed_facts hbsE hbnE hne
  have hzb:=zeroed_below (hbel1.trans ((hb6).mono hbel1.size)) hgs0 hgn0 w6
  have hne':gn ≠ gs:=fun e=>hne e.symm
  have q0:=hbsE.cell 0
  have q1:=hbsE.cell 1
  have q2:=hbsE.cell 2
  have q3:=hbsE.cell 3
  have q4:=hbsE.cell 4
  have q5:=hbsE.cell 5
  have q6:=hbsE.cell 6
  simp only [nqg,nqh,nqi] at q0 q1 q2 q3 q4 q5 q6
  have r0:=hbnE.cell 0
  have r1:=hbnE.cell 1
  have r2:=hbnE.cell 2
  have r3:=hbnE.cell 3
  have r4:=hbnE.cell 4
  simp only [nqg,nqh,nqi] at r0 r1 r2 r3 r4
  have fq0:=hbsE.frozen 0
  have fq1:=hbsE.frozen 1
  have fq2:=hbsE.frozen 2
  have fq3:=hbsE.frozen 3
  have fq4:=hbsE.frozen 4
  have fq5:=hbsE.frozen 5
  have fq6:=hbsE.frozen 6
  have fr0:=hbnE.frozen 0
  have fr1:=hbnE.frozen 1
  have fr2:=hbnE.frozen 2
  have fr3:=hbnE.frozen 3
  have fr4:=hbnE.frozen 4
  have lq:=hbsE.lt
  have lr:=hbnE.lt
  go_wp2
  clear q0 q1 q2 q3 q4 q5 q6 r0 r1 r2 r3 r4
  change bodyPost _ _ _ _ _ (zeroed w6 gs gn)
  obtain ⟨hzs,hzn⟩:=hzf
  generalize zeroed w6 gs gn = WW at hzs hzn hzb ⊢
  have q0:=hzs.cell 0
  have q1:=hzs.cell 1
  have q2:=hzs.cell 2
  have q3:=hzs.cell 3
  have q4:=hzs.cell 4
  have q5:=hzs.cell 5
  have q6:=hzs.cell 6
  simp only [nqg,nqh,nqi] at q0 q1 q2 q3 q4 q5 q6
  have r0:=hzn.cell 0
  have r1:=hzn.cell 1
  have r2:=hzn.cell 2
  have r3:=hzn.cell 3
  have r4:=hzn.cell 4
  simp only [nqg,nqh,nqi] at r0 r1 r2 r3 r4
  clear hzs hzn
  refine bodyPost_ret (v:=_) (by simp [results,Tryz.results21,go_sem,q0,q1,q2,q3,q4,q5,q6,r0,r1,r2,r3,r4]; rfl) rfl ?_
  exact SlipPostF.fail (HER.out) ho hzb
 obtain ⟨v6,hI6⟩:=hK6 ho
 rw [ho] at hofe ⊢
 have hbb:sumB r.ws (sumsP I.e) = I.b:=by rw [← HWS.out]; rfl
 have hme:(sumsP I.e).filter nz = I.merged:=rfl
 rw [hbb,hme,List.nil_append,← HWS.out] at hI6
 clear hK6 hb6 ho hbb hme
 have HOF:=Lib.hid hofe
 clear hofe
 go_upto_region 9 with fail
 have hab5:=amts_bd (ofErr_inv HOF.out).2.2.2
 obtain ⟨_,⟨c0',c1'⟩,⟨t0',t1'⟩,⟨i0',i1'⟩,⟨a0',a1'⟩⟩:=hab5
 have c0 : -1000000000≤I.b.c:=c0'
 have c1:I.b.c≤1000000000:=c1'
 have t0 : -1000000000≤I.b.t:=t0'
 have t1:I.b.t≤1000000000:=t1'
 have i1:I.b.i≤1000000000:=i1'
 have a0 : -1000000000≤I.b.a:=a0'
 have a1:I.b.a≤1000000000:=a1'
 clear c0' c1' t0' t1' i0' i1' a0' a1'
 have htk:=HOK.out.take1 HOF.out
 have htf:=take_facts (before:=true) htk
 have s0:0≤sumE I.before:=htf.2.2.1
 have s1:sumE I.before≤max I.b.c 0:=htf.2.2.2.1
 have HBFX:Hid (∀ x ∈ I.before,0≤x.amount∧x.amount≤1000000000):=fun x hx=>(htf.2.1 x hx).2
 have HBFZ:Hid (∀ x ∈ I.before,x.code.size≤maxLen):=fun x hx=>name_max (htf.2.1 x hx).1
 have lbf:I.before.length≤16:=htf.2.2.2.2
 have HPD:Hid (I.p.deds = p.ds):=by rw [Hid,HIP.out]; rfl
 have HYT:Hid (I.y.taken = y.taken):=by rw [Hid,HIY.out]; rfl
 have HDED:Hid (validD p.ds = true):=by rw [Hid,← HPD.out]; exact HOK.out.p.deds
 have HREC:Hid (recB y.taken = true):=by rw [Hid,← HYT.out]; exact HOK.out.y.taken
 have HBM:Hid (I.before = takeR p.ds true (max I.b.c 0) (max I.b.c 0) y.taken):=by rw [Hid,← HPD.out,← HYT.out]; rfl
 have HBE:Hid (0 = takeE p.ds (max I.b.c 0) (max I.b.c 0) y.taken):=by rw [Hid,← HPD.out,← HYT.out]; exact htk.symm
 have hpre:=(ofErr_inv HOF.out).2.1
 have hml:I.merged.length≤128:=Nat.le_trans (List.length_filter_le _ _) (preErr_zero hpre).2
 have hL1:(earnL I.r.wages I.merged).length≤128:=by
  have:=List.length_filter_le nz I.merged
  simp only [earnL,List.length_map]; omega
 have HTK:=Lib.hid htk
 clear htf hpre hml htk
 have hBf:=Blk.new w6 105 #[.func (.func 53) #[.pointer (some ⟨w1.heap.size,0,none⟩)] #[],.func (.func 54) #[.pointer (some ⟨w1.heap.size,0,none⟩)] #[],.func (.func 55) #[.pointer (some ⟨w1.heap.size,0,none⟩)] #[],.func (.func 56) #[.pointer (some ⟨w1.heap.size,0,none⟩)] #[],.func (.func 57) #[.pointer (some ⟨w1.heap.size,0,none⟩)] #[]]
 have hbn:=below_new w6 (.cells #[.func (.func 53) #[.pointer (some ⟨w1.heap.size,0,none⟩)] #[],.func (.func 54) #[.pointer (some ⟨w1.heap.size,0,none⟩)] #[],.func (.func 55) #[.pointer (some ⟨w1.heap.size,0,none⟩)] #[],.func (.func 56) #[.pointer (some ⟨w1.heap.size,0,none⟩)] #[],.func (.func 57) #[.pointer (some ⟨w1.heap.size,0,none⟩)] #[]] 105)
 generalize w6.alloc (Obj.cells _ _) = W9 at hBf hbn ⊢
 have hfg:w6.heap.size ≠ w1.heap.size:=by have:=hI6.lt; omega
 have hv9:v6.ownBlock ≠ some w6.heap.size:=fun e=>by have:=(hI6.row _ e).2; omega
 have hI9:=hI6.adv hbn
 clear hI6 hbn
 generalize w6.heap.size = gf at *
 -- deductBefore
 have k0:=hBf.cell 0
 simp only [nqg,nqh] at k0
 go_wp2_with fail
 refine wp_loop_rounds 6 ?_
 rw [rounds_succ]
 go_wp2_with fail
 refine (deductBeforeP32 hI9 HP1.out HY1.out HDED.out HREC.out (by omega) (by show _≤I.b.c; omega) (by show I.b.c≤_; omega) I.before 0 HBM.out HBE.out).mono ?_
 rintro x w10 ⟨rfl,_,hK⟩
 obtain ⟨v10,Ab,cb,hI10,hm10,hLb⟩:=hK rfl
 have hBf10:=hBf.mv hm10 hfg hv9
 have hv10:=hm10.far hBf.lt hv9
 clear hI9 hK hm10 hBf hv9 k0
 -- contribute
 have hi1:I.insured≤1000000000:=by show max I.b.i 0≤_; omega
 have hL2:(earnL I.r.wages I.merged++linesK 3 I.before).length≤144:=by
  have:=List.length_filter_le nz I.before
  simp only [linesK,List.length_append,List.length_map]; omega
 have HSS:Hid (r.ss = I.r.schemes):=by rw [Hid,HIR.out]; rfl
 have HJB:Hid (I.jobs = (⟨y.Ai,y.ci,y.ins,I.insured⟩ :: p.es:List EmpC).map EmpC.v):=by rw [Hid]; unfold NetIn.jobs; rw [HIY.out,HIP.out]; rfl
 have k1:=hBf10.cell 1
 simp only [nqg,nqh,nqi] at k1
 go_wp2_with fail
 rw [rounds_succ]
 go_wp2_with fail
 refine (contributeP32 hI10 HR1.out HP1.out HY1.out I HSS.out HJB.out rfl hi1 HOK.out.r.sch HOK.out.r.nsch (HOK.out.emps hper2 hi1) (fun x hx ho=>HOK.out.levy hper2 hi1 hx ho) (by omega) (by show _≤I.b.c - sumE I.before; omega) (by show I.b.c - sumE I.before≤_; omega) rfl rfl).mono ?_
 rintro x w11 ⟨rfl,hb11,hK⟩
 clear k1
 rcases hov:I.overs with _ | _
 rotate_left
 ·
  have HE4:Hid (conE I = 4):=by rw [Hid,conE,hov]; rfl
  have HER:Hid (I.err = 4):=(Pre2.mk hper2 HOF.out HTK.out).err hov
  rw [HE4.out]
  clear hK hI10 hBf10 hLb
  have hbsE:=hBs1.below hb11 lgs
  have hbnE:=hBn1.below hb11 lgn
  have hzf:=zeroed_facts hbsE hbnE hne
  have hzb:=zeroed_below (hbel1.trans ((hb11).mono hbel1.size)) hgs0 hgn0 w11
  have hne':gn ≠ gs:=fun e=>hne e.symm
  have q0:=hbsE.cell 0
  have q1:=hbsE.cell 1
  have q2:=hbsE.cell 2
  have q3:=hbsE.cell 3
  have q4:=hbsE.cell 4
  have q5:=hbsE.cell 5
  have q6:=hbsE.cell 6
  simp only [nqg,nqh,nqi] at q0 q1 q2 q3 q4 q5 q6
  have r0:=hbnE.cell 0
  have r1:=hbnE.cell 1
  have r2:=hbnE.cell 2
  have r3:=hbnE.cell 3
  have r4:=hbnE.cell 4
  simp only [nqg,nqh,nqi] at r0 r1 r2 r3 r4
  have fq0:=hbsE.frozen 0
  have fq1:=hbsE.frozen 1
  have fq2:=hbsE.frozen 2
  have fq3:=hbsE.frozen 3
  have fq4:=hbsE.frozen 4
  have fq5:=hbsE.frozen 5
  have fq6:=hbsE.frozen 6
  have fr0:=hbnE.frozen 0
  have fr1:=hbnE.frozen 1
  have fr2:=hbnE.frozen 2
  have fr3:=hbnE.frozen 3
  have fr4:=hbnE.frozen 4
  have lq:=hbsE.lt
  have lr:=hbnE.lt
  go_wp2
  clear q0 q1 q2 q3 q4 q5 q6 r0 r1 r2 r3 r4
  change bodyPost _ _ _ _ _ (zeroed w11 gs gn)
  obtain ⟨hzs,hzn⟩:=hzf
  generalize zeroed w11 gs gn = WW at hzs hzn hzb ⊢
  have q0:=hzs.cell 0
  have q1:=hzs.cell 1
  have q2:=hzs.cell 2
  have q3:=hzs.cell 3
  have q4:=hzs.cell 4
  have q5:=hzs.cell 5
  have q6:=hzs.cell 6
  simp only [nqg,nqh,nqi] at q0 q1 q2 q3 q4 q5 q6
  have r0:=hzn.cell 0
  have r1:=hzn.cell 1
  have r2:=hzn.cell 2
  have r3:=hzn.cell 3
  have r4:=hzn.cell 4
  simp only [nqg,nqh,nqi] at r0 r1 r2 r3 r4
  clear hzs hzn
  refine bodyPost_ret (v:=_) (by simp [results,Tryz.results21,go_sem,q0,q1,q2,q3,q4,q5,q6,r0,r1,r2,r3,r4]; rfl) rfl ?_
  exact SlipPostF.fail (HER.out) (by omega) hzb
 have HE0:Hid (conE I = 0):=by rw [Hid,conE,hov]; rfl
 have HOV:=Lib.hid hov
 obtain ⟨v11,hI11,hm11⟩:=hK HE0.out
 rw [HE0.out]
 have hBf11:=hBf10.mv hm11 hfg hv10
 have hv11:=hm11.far hBf10.lt hv10
 have hLb11:=hLb.mv hm11
 clear hK hI10 hm11 hBf10 hv10 hLb hov HE0
 -- withhold
 have hlv:=levies_bd (I:=I) (l:=I.r.schemes) (k:=I.r.schemes.length) HOK.out.r.nsch (fun x hx=>(HOK.out.levy hper2 hi1 (List.mem_of_mem_take hx) (by
  have:=HOV.out
  unfold NetIn.overs at this
  have h2:=List.any_eq_false.1 this x (List.mem_of_mem_take hx)
  simpa using h2)).1)
 rw [List.take_length] at hlv
 obtain ⟨⟨v0',v1'⟩,v2,v3⟩:=hlv
 have v0:0≤I.levies:=v0'
 have v1:I.levies≤12000000000:=v1'
 clear v0' v1'
 have hL3:((earnL I.r.wages I.merged++linesK 3 I.before)++I.levyL I.r.schemes).length≤168:=by
  have h1:=(I.levy_perm I.r.schemes).length_eq
  have h2:=List.length_filter_le nz (I.ownTo I.r.schemes)
  have h3:=List.length_filter_le nz (I.emplTo I.r.schemes)
  have h4:=HOK.out.r.nsch
  simp only [linesK,NetIn.ownTo,NetIn.emplTo,List.length_append,List.length_map] at h1 h2 h3 hL2 ⊢
  omega
 have HTAR:Hid (TarOk r.tm.t):=by have:=HOK.out.r.tar; rw [HIR.out] at this; exact this
 have n0:1≤r.count:=by have:=HOK.out.r.c0; have:=HCP.out; omega
 have n1:r.count≤53:=by have:=HOK.out.r.c1; have:=HCP.out; omega
 have p0:0≤y.periods:=by have:=HOK.out.y.p0; have:=HCP.out; omega
 have p1:y.periods < r.count:=by have:=HCP.out; omega
 have hyi:I.y.income = y.income∧I.y.withheld = y.withheld∧I.y.insured = y.ins:=by rw [HIY.out]; exact ⟨rfl,rfl,rfl⟩
 have y0:0≤y.income:=by have:=HOK.out.y.i0; omega
 have y1:y.income≤999000000000:=by have:=HOK.out.y.i1; have:=HCP.out; omega
 have u0 : -1000000000000≤y.withheld:=by have:=HOK.out.y.w0; have:=HCP.out; omega
 have u1:y.withheld≤1000000000000:=by have:=HOK.out.y.w1; have:=HCP.out; omega
 have HTX:Hid (I.tax = withN r.tm.t r.count y.periods y.income y.withheld I.income):=by rw [Hid]; unfold NetIn.tax; rw [HIR.out,HIY.out]; rfl
 have HINC:Hid (I.income = max (I.b.t - I.reliefTo I.r.schemes - sumE I.before) 0):=by rw [Hid]; unfold NetIn.income; omega
 have k2:=hBf11.cell 2
 simp only [nqg,nqh,nqi] at k2
 go_wp2_with fail
 rw [rounds_succ]
 go_wp2_with fail
 refine (withholdMP32 hI11 HR1.out Ab cb I.before rfl hLb11 (by omega) (by omega) HBFX.out HTAR.out n0 n1 p0 p1 y0 y1 u0 u1 t0 t1 v2 v3 (by show _≤I.b.c - sumE I.before - I.levies; omega) (by show I.b.c - sumE I.before - I.levies≤_; omega) I.income I.tax HINC.out HTX.out).mono ?_
 rintro x w12 ⟨hb12,hK⟩
 clear k2
 rcases hK with ⟨hta,rfl⟩ | ⟨hta,rfl,v12,hI12,hm12⟩
 ·
  have HER:Hid (I.err = 4):=by
   rw [Hid]; unfold NetIn.err
   rw [if_neg (by omega),HOF.out,if_neg (by simp),HTK.out,if_neg (by simp),HOV.out,if_neg (by simp),if_pos hta]
  clear hI11 hBf11 hLb11
  have hbsE:=hBs1.below hb12 lgs
  have hbnE:=hBn1.below hb12 lgn
  have hzf:=zeroed_facts hbsE hbnE hne
  have hzb:=zeroed_below (hbel1.trans ((hb12).mono hbel1.size)) hgs0 hgn0 w12
  have hne':gn ≠ gs:=fun e=>hne e.symm
  have q0:=hbsE.cell 0
  have q1:=hbsE.cell 1
  have q2:=hbsE.cell 2
  have q3:=hbsE.cell 3
  have q4:=hbsE.cell 4
  have q5:=hbsE.cell 5
  have q6:=hbsE.cell 6
  simp only [nqg,nqh,nqi] at q0 q1 q2 q3 q4 q5 q6
  have r0:=hbnE.cell 0
  have r1:=hbnE.cell 1
  have r2:=hbnE.cell 2
  have r3:=hbnE.cell 3
  have r4:=hbnE.cell 4
  simp only [nqg,nqh,nqi] at r0 r1 r2 r3 r4
  have fq0:=hbsE.frozen 0
  have fq1:=hbsE.frozen 1
  have fq2:=hbsE.frozen 2
  have fq3:=hbsE.frozen 3
  have fq4:=hbsE.frozen 4
  have fq5:=hbsE.frozen 5
  have fq6:=hbsE.frozen 6
  have fr0:=hbnE.frozen 0
  have fr1:=hbnE.frozen 1
  have fr2:=hbnE.frozen 2
  have fr3:=hbnE.frozen 3
  have fr4:=hbnE.frozen 4
  have lq:=hbsE.lt
  have lr:=hbnE.lt
  go_wp2
  clear q0 q1 q2 q3 q4 q5 q6 r0 r1 r2 r3 r4
  change bodyPost _ _ _ _ _ (zeroed w12 gs gn)
  obtain ⟨hzs,hzn⟩:=hzf
  generalize zeroed w12 gs gn = WW at hzs hzn hzb ⊢
  have q0:=hzs.cell 0
  have q1:=hzs.cell 1
  have q2:=hzs.cell 2
  have q3:=hzs.cell 3
  have q4:=hzs.cell 4
  have q5:=hzs.cell 5
  have q6:=hzs.cell 6
  simp only [nqg,nqh,nqi] at q0 q1 q2 q3 q4 q5 q6
  have r0:=hzn.cell 0
  have r1:=hzn.cell 1
  have r2:=hzn.cell 2
  have r3:=hzn.cell 3
  have r4:=hzn.cell 4
  simp only [nqg,nqh,nqi] at r0 r1 r2 r3 r4
  clear hzs hzn
  refine bodyPost_ret (v:=_) (by simp [results,Tryz.results21,go_sem,q0,q1,q2,q3,q4,q5,q6,r0,r1,r2,r3,r4]; rfl) rfl ?_
  exact SlipPostF.fail (HER.out) (by omega) hzb
 have hBf12:=hBf11.mv hm12 hfg hv11
 have hv12:=hm12.far hBf11.lt hv11
 have hLb12:=hLb11.mv hm12
 have HTA:=Lib.hid hta
 clear hI11 hm12 hBf11 hv11 hLb11 hta
 -- attach
 have htb:=amtB_iff.1 HTA.out
 obtain ⟨x0,x1⟩:=htb
 have hL4:(((earnL I.r.wages I.merged++linesK 3 I.before)++I.levyL I.r.schemes)++linesK 6 [⟨⟨#[]⟩,I.tax⟩]).length≤169:=by
  have:=List.length_filter_le nz [(⟨⟨#[]⟩,I.tax⟩ : Elem)]
  rw [List.length_append]
  simp only [linesK,List.length_map,List.length_cons,List.length_nil] at this hL3 ⊢
  omega
 have hl3:I.left3 = I.b.c - sumE I.before - I.levies - I.tax:=rfl
 have hn0:0≤I.net:=by unfold NetIn.net; omega
 have HATF:Hid (¬ (I.first = true∧1000000000 < I.net)→(∀ x ∈ I.attached,0≤x.amount∧x.amount≤1000000000)∧I.attached.length≤16):=fun hnt=>by
  by_cases hf:I.first = true
  ·
   have hn:I.net≤1000000000:=by
    rcases Int.lt_or_le 1000000000 I.net with h | h
    ·
     exact absurd ⟨hf,h⟩ hnt
    ·
     exact h
   obtain ⟨a,_⟩:=attach_facts HOK.out.r.sh HOK.out.p.orders (net:=I.net) hn0 hn HOK.out.p.d0 HOK.out.p.d1
   have e:I.attached = attachN I.r.sh I.net I.p.deps I.p.orders:=by unfold NetIn.attached; rw [if_pos hf]
   rw [e]
   refine ⟨fun x hx=>⟨a.pos x hx,by have:=a.hi x hx; omega⟩,?_⟩
   have:=nodup_len a.sorted a.code
   have:=HOK.out.p.orders.len
   omega
  ·
   have e:I.attached = I.kept:=by unfold NetIn.attached; rw [if_neg hf]
   rw [e]
   obtain ⟨k1,k2,k3⟩:=recB_iff.1 HOK.out.kept.recd
   exact ⟨fun x hx=>⟨(k2 x hx).2.1,HOK.out.kept.hi x hx⟩,HOK.out.kept.len⟩
 have HATT:Hid (Calls Tryz.prog 56 #[.pointer (some ⟨w1.heap.size,0,none⟩)] w12 (StepPost w1 (if I.first = true∧1000000000 < I.net then 2 else 0) (AttK w1 w1.heap.size ⟨r,p,y,Ak,kc,I.kept,first⟩ { zCal with b:=I.b,tv:=.slice y.At y.taken.length y.ct,bv:=.slice Ab I.before.length cb,insured:=I.insured,levies:=I.levies,relief:=I.reliefTo I.r.schemes,income:=I.income,tax:=I.tax,lv:=v12,left:=I.b.c - sumE I.before - I.levies - I.tax } (((earnL I.r.wages I.merged++linesK 3 I.before)++I.levyL I.r.schemes)++linesK 6 [⟨⟨#[]⟩,I.tax⟩]) I.attached w12))):=by
  by_cases hf:first = true
  ·
   have hif:I.first = true:=by rw [HFI.out]; exact hf
   have hsh:I.r.sh = r.sh∧I.p.deps = p.deps∧I.p.orders = p.os:=by rw [HIR.out,HIP.out]; exact ⟨rfl,rfl,rfl⟩
   have hsk:=HOK.out.r.sh
   have hok:=HOK.out.p.orders
   have hd0:=HOK.out.p.d0
   have hd1:=HOK.out.p.d1
   rw [hsh.1] at hsk
   rw [hsh.2.2] at hok
   rw [hsh.2.1] at hd0 hd1
   have hnl:I.net = max ((I.b.c - sumE I.before - I.levies - I.tax) - max (I.b.c - I.b.a) 0) 0:=rfl
   have hea:attE I.net = if I.first = true∧1000000000 < I.net then 2 else 0:=by
    unfold attE
    by_cases hn:I.net≤1000000000
    ·
     rw [if_pos hn,if_neg (fun h=>by omega)]
    ·
     rw [if_neg hn,if_pos ⟨hif,by omega⟩]
   have hra:attE I.net = 0→attR r.sh I.net p.deps p.os = I.attached:=fun h0=>by
    unfold attE at h0
    have hn:I.net≤1000000000:=by
     by_cases hn:I.net≤1000000000
     ·
      exact hn
     ·
      rw [if_neg hn] at h0; cases h0
    rw [attR,if_pos hn]
    unfold NetIn.attached
    rw [if_pos hif,hsh.1,hsh.2.1,hsh.2.2]
   have hA:=attachMP32_first hI12 HP1.out hf (by omega) hsk hok hd0 hd1 (by show _≤I.b.c - sumE I.before - I.levies - I.tax; omega) (by show I.b.c - sumE I.before - I.levies - I.tax≤_; omega) c0 c1 a0 a1 I.net hnl _ rfl _ rfl (fun h0=>by
    rw [hra h0]
    obtain ⟨q1,q2⟩:=HATF.out (by
     intro hc
     rw [hea,if_pos hc] at h0
     cases h0)
    exact ⟨by omega,fun x hx=>by have:=q1 x hx; omega⟩)
   refine hA.mono ?_
   rintro x w' ⟨rfl,hb,hK⟩
   rw [hea]
   refine ⟨rfl,hb,fun h0=>?_⟩
   have:=hK (by rw [hea]; exact h0)
   rwa [hra (by rw [hea]; exact h0)] at this
  ·
   have hff:first = false:=by simpa using hf
   have hif:¬ (I.first = true∧1000000000 < I.net):=by rw [HFI.out,hff]; simp
   rw [Hid,if_neg hif]
   have e:I.attached = I.kept:=by unfold NetIn.attached; rw [HFI.out,hff]; simp
   obtain ⟨q1,q2⟩:=HATF.out hif
   rw [e] at q1 q2 ⊢
   exact attachMP32_kept hI12 HK1.out hff (by omega) (by show I.kept.length≤_; omega) (fun x hx=>by have:=q1 x hx; omega) (by show _≤I.b.c - sumE I.before - I.levies - I.tax; omega) (by show I.b.c - sumE I.before - I.levies - I.tax≤_; omega)
 clear hI12 HK1
 have k3:=hBf12.cell 3
 simp only [nqg,nqh,nqi] at k3
 go_wp2_with fail
 rw [rounds_succ]
 go_wp2_with fail
 refine HATT.out.mono ?_
 rintro x w13 ⟨rfl,hb13,hK⟩
 clear k3 HATT
 by_cases hnt:I.first = true∧1000000000 < I.net
 ·
  have HER:Hid (I.err = 2):=by
   rw [Hid]; unfold NetIn.err
   rw [if_neg (by omega),HOF.out,if_neg (by simp),HTK.out,if_neg (by simp),HOV.out,if_neg (by simp),HTA.out,if_neg (by simp),if_pos hnt]
  rw [if_pos hnt]
  clear hK hBf12 hLb12
  have hbsE:=hBs1.below hb13 lgs
  have hbnE:=hBn1.below hb13 lgn
  have hzf:=zeroed_facts hbsE hbnE hne
  have hzb:=zeroed_below (hbel1.trans ((hb13).mono hbel1.size)) hgs0 hgn0 w13
  have hne':gn ≠ gs:=fun e=>hne e.symm
  have q0:=hbsE.cell 0
  have q1:=hbsE.cell 1
  have q2:=hbsE.cell 2
  have q3:=hbsE.cell 3
  have q4:=hbsE.cell 4
  have q5:=hbsE.cell 5
  have q6:=hbsE.cell 6
  simp only [nqg,nqh,nqi] at q0 q1 q2 q3 q4 q5 q6
  have r0:=hbnE.cell 0
  have r1:=hbnE.cell 1
  have r2:=hbnE.cell 2
  have r3:=hbnE.cell 3
  have r4:=hbnE.cell 4
  simp only [nqg,nqh,nqi] at r0 r1 r2 r3 r4
  have fq0:=hbsE.frozen 0
  have fq1:=hbsE.frozen 1
  have fq2:=hbsE.frozen 2
  have fq3:=hbsE.frozen 3
  have fq4:=hbsE.frozen 4
  have fq5:=hbsE.frozen 5
  have fq6:=hbsE.frozen 6
  have fr0:=hbnE.frozen 0
  have fr1:=hbnE.frozen 1
  have fr2:=hbnE.frozen 2
  have fr3:=hbnE.frozen 3
  have fr4:=hbnE.frozen 4
  have lq:=hbsE.lt
  have lr:=hbnE.lt
  go_wp2
  clear q0 q1 q2 q3 q4 q5 q6 r0 r1 r2 r3 r4
  change bodyPost _ _ _ _ _ (zeroed w13 gs gn)
  obtain ⟨hzs,hzn⟩:=hzf
  generalize zeroed w13 gs gn = WW at hzs hzn hzb ⊢
  have q0:=hzs.cell 0
  have q1:=hzs.cell 1
  have q2:=hzs.cell 2
  have q3:=hzs.cell 3
  have q4:=hzs.cell 4
  have q5:=hzs.cell 5
  have q6:=hzs.cell 6
  simp only [nqg,nqh,nqi] at q0 q1 q2 q3 q4 q5 q6
  have r0:=hzn.cell 0
  have r1:=hzn.cell 1
  have r2:=hzn.cell 2
  have r3:=hzn.cell 3
  have r4:=hzn.cell 4
  simp only [nqg,nqh,nqi] at r0 r1 r2 r3 r4
  clear hzs hzn
  refine bodyPost_ret (v:=_) (by simp [results,Tryz.results21,go_sem,q0,q1,q2,q3,q4,q5,q6,r0,r1,r2,r3,r4]; rfl) rfl ?_
  exact SlipPostF.fail (HER.out) (by omega) hzb
 rw [if_neg hnt] at hK ⊢
 obtain ⟨v13,hI13,hm13⟩:=hK rfl
 have hBf13:=hBf12.mv hm13 hfg hv12
 have hv13:=hm13.far hBf12.lt hv12
 have hLb13:=hLb12.mv hm13
 obtain ⟨q1,q2⟩:=HATF.out hnt
 have HPRE:Hid (Pre4 I):=⟨hper2,HOF.out,HTK.out,HOV.out,HTA.out,hnt⟩
 clear hK hm13 hBf12 hv12 hLb12 HATF hnt
 -- deductAfter
 have hsa:=sumE_bd I.attached 1000000000 q1
 have hL5:((((earnL I.r.wages I.merged++linesK 3 I.before)++I.levyL I.r.schemes)++linesK 6 [⟨⟨#[]⟩,I.tax⟩])++linesK 7 I.attached).length≤185:=by
  have:=List.length_filter_le nz I.attached
  rw [List.length_append]
  simp only [linesK,List.length_map] at this hL4 ⊢
  omega
 have hl4:I.left4 = I.b.c - sumE I.before - I.levies - I.tax - sumE I.attached:=rfl
 have HRC:Hid (I.taken1 = addR y.taken I.before):=by rw [Hid,← HYT.out]; rfl
 have HAE1:Hid (addE I.y.taken I.before = addE y.taken I.before):=by rw [Hid,HYT.out]
 have HAF:Hid (I.after = takeR p.ds false (max I.b.c 0) (max I.left4 0) I.taken1):=by rw [Hid,← HPD.out]; rfl
 have HTE2:Hid (takeE I.p.deds I.base (max I.left4 0) I.taken1 = takeE p.ds (max I.b.c 0) (max I.left4 0) I.taken1):=by rw [Hid,HPD.out]; rfl
 obtain ⟨er1,her1⟩ : ∃ er1,er1 = addE y.taken I.before:=⟨_,rfl⟩
 obtain ⟨er2,her2⟩ : ∃ er2,er2 = takeE p.ds (max I.b.c 0) (max I.left4 0) I.taken1:=⟨_,rfl⟩
 have HER1:=Lib.hid her1
 have HER2:=Lib.hid her2
 have k4:=hBf13.cell 4
 simp only [nqg,nqh,nqi] at k4
 go_wp2_with fail
 rw [rounds_succ]
 go_wp2_with fail
 refine (deductAfterP32 hI13 HP1.out HY1.out Ab cb I.before rfl hLb13 (by omega) HBFZ.out HDED.out HREC.out (by omega) (by show _≤I.b.c - sumE I.before - I.levies - I.tax - sumE I.attached; omega) (by show I.b.c - sumE I.before - I.levies - I.tax - sumE I.attached≤_; omega) I.taken1 I.after er1 er2 HRC.out her1 HAF.out her2).mono ?_
 rintro x w14 ⟨rfl,hb14,hK⟩
 clear k4 her1 her2
 by_cases h1:er1 = 0
 rotate_left
 ·
  have HER:Hid (I.err = er1):=HPRE.out.err1 (HAE1.out.trans HER1.out.symm) h1
  have HE2:Hid (∀ n,err2 er1 n = er1):=fun n=>by rw [err2,if_pos h1]
  rw [HE2.out]
  clear hK hI13 hBf13 hLb13 HE2
  have hner:(er1 != 0) = true:=by simp [h1]
  have hbsE:=hBs1.below hb14 lgs
  have hbnE:=hBn1.below hb14 lgn
  have hzf:=zeroed_facts hbsE hbnE hne
  have hzb:=zeroed_below (hbel1.trans ((hb14).mono hbel1.size)) hgs0 hgn0 w14
  have hne':gn ≠ gs:=fun e=>hne e.symm
  have q0:=hbsE.cell 0
  have q1:=hbsE.cell 1
  have q2:=hbsE.cell 2
  have q3:=hbsE.cell 3
  have q4:=hbsE.cell 4
  have q5:=hbsE.cell 5
  have q6:=hbsE.cell 6
  simp only [nqg,nqh,nqi] at q0 q1 q2 q3 q4 q5 q6
  have r0:=hbnE.cell 0
  have r1:=hbnE.cell 1
  have r2:=hbnE.cell 2
  have r3:=hbnE.cell 3
  have r4:=hbnE.cell 4
  simp only [nqg,nqh,nqi] at r0 r1 r2 r3 r4
  have fq0:=hbsE.frozen 0
  have fq1:=hbsE.frozen 1
  have fq2:=hbsE.frozen 2
  have fq3:=hbsE.frozen 3
  have fq4:=hbsE.frozen 4
  have fq5:=hbsE.frozen 5
  have fq6:=hbsE.frozen 6
  have fr0:=hbnE.frozen 0
  have fr1:=hbnE.frozen 1
  have fr2:=hbnE.frozen 2
  have fr3:=hbnE.frozen 3
  have fr4:=hbnE.frozen 4
  have lq:=hbsE.lt
  have lr:=hbnE.lt
  go_wp2
  clear q0 q1 q2 q3 q4 q5 q6 r0 r1 r2 r3 r4
  change bodyPost _ _ _ _ _ (zeroed w14 gs gn)
  obtain ⟨hzs,hzn⟩:=hzf
  generalize zeroed w14 gs gn = WW at hzs hzn hzb ⊢
  have q0:=hzs.cell 0
  have q1:=hzs.cell 1
  have q2:=hzs.cell 2
  have q3:=hzs.cell 3
  have q4:=hzs.cell 4
  have q5:=hzs.cell 5
  have q6:=hzs.cell 6
  simp only [nqg,nqh,nqi] at q0 q1 q2 q3 q4 q5 q6
  have r0:=hzn.cell 0
  have r1:=hzn.cell 1
  have r2:=hzn.cell 2
  have r3:=hzn.cell 3
  have r4:=hzn.cell 4
  simp only [nqg,nqh,nqi] at r0 r1 r2 r3 r4
  clear hzs hzn
  refine bodyPost_ret (v:=_) (by simp [results,Tryz.results21,go_sem,q0,q1,q2,q3,q4,q5,q6,r0,r1,r2,r3,r4]; rfl) rfl ?_
  exact SlipPostF.fail (HER.out) h1 hzb
 have HE2:Hid (∀ n,err2 er1 n = n):=fun n=>by rw [err2,if_neg (by simp [h1])]
 rw [HE2.out] at hK ⊢
 have H1:Hid (addE I.y.taken I.before = 0):=HAE1.out.trans (HER1.out.symm.trans h1)
 by_cases h2:er2 = 0
 rotate_left
 ·
  have HER:Hid (I.err = er2):=HPRE.out.err2 H1.out (HTE2.out.trans HER2.out.symm) h2
  clear hK hI13 hBf13 hLb13 HE2
  have hner:(er2 != 0) = true:=by simp [h2]
  have hbsE:=hBs1.below hb14 lgs
  have hbnE:=hBn1.below hb14 lgn
  have hzf:=zeroed_facts hbsE hbnE hne
  have hzb:=zeroed_below (hbel1.trans ((hb14).mono hbel1.size)) hgs0 hgn0 w14
  have hne':gn ≠ gs:=fun e=>hne e.symm
  have q0:=hbsE.cell 0
  have q1:=hbsE.cell 1
  have q2:=hbsE.cell 2
  have q3:=hbsE.cell 3
  have q4:=hbsE.cell 4
  have q5:=hbsE.cell 5
  have q6:=hbsE.cell 6
  simp only [nqg,nqh,nqi] at q0 q1 q2 q3 q4 q5 q6
  have r0:=hbnE.cell 0
  have r1:=hbnE.cell 1
  have r2:=hbnE.cell 2
  have r3:=hbnE.cell 3
  have r4:=hbnE.cell 4
  simp only [nqg,nqh,nqi] at r0 r1 r2 r3 r4
  have fq0:=hbsE.frozen 0
  have fq1:=hbsE.frozen 1
  have fq2:=hbsE.frozen 2
  have fq3:=hbsE.frozen 3
  have fq4:=hbsE.frozen 4
  have fq5:=hbsE.frozen 5
  have fq6:=hbsE.frozen 6
  have fr0:=hbnE.frozen 0
  have fr1:=hbnE.frozen 1
  have fr2:=hbnE.frozen 2
  have fr3:=hbnE.frozen 3
  have fr4:=hbnE.frozen 4
  have lq:=hbsE.lt
  have lr:=hbnE.lt
  go_wp2
  clear q0 q1 q2 q3 q4 q5 q6 r0 r1 r2 r3 r4
  change bodyPost _ _ _ _ _ (zeroed w14 gs gn)
  obtain ⟨hzs,hzn⟩:=hzf
  generalize zeroed w14 gs gn = WW at hzs hzn hzb ⊢
  have q0:=hzs.cell 0
  have q1:=hzs.cell 1
  have q2:=hzs.cell 2
  have q3:=hzs.cell 3
  have q4:=hzs.cell 4
  have q5:=hzs.cell 5
  have q6:=hzs.cell 6
  simp only [nqg,nqh,nqi] at q0 q1 q2 q3 q4 q5 q6
  have r0:=hzn.cell 0
  have r1:=hzn.cell 1
  have r2:=hzn.cell 2
  have r3:=hzn.cell 3
  have r4:=hzn.cell 4
  simp only [nqg,nqh,nqi] at r0 r1 r2 r3 r4
  clear hzs hzn
  refine bodyPost_ret (v:=_) (by simp [results,Tryz.results21,go_sem,q0,q1,q2,q3,q4,q5,q6,r0,r1,r2,r3,r4]; rfl) rfl ?_
  exact SlipPostF.fail (HER.out) h2 hzb
 obtain ⟨v14,A1,cc1,A2,cc2,hI14,hm14,hLr,hLa⟩:=hK h2
 have HTE3:=Lib.hid (HTE2.out.trans (HER2.out.symm.trans h2))
 subst h2
 have hBf14:=hBf13.mv hm14 hfg hv13
 clear hK hI13 hm14 hLb13 hBf13 hv13 HE2 HER1 HER2
 -- finish
 have htf2:=take_facts (before:=false) HTE3.out
 have haf:I.after = takeR I.p.deds false I.base (max I.left4 0) I.taken1:=rfl
 rw [← haf] at htf2
 obtain ⟨_,f2,f3,f4,f5⟩:=htf2
 have HAX:Hid (∀ x ∈ I.after,x.code.size≤maxLen):=fun x hx=>name_max (f2 x hx).1
 have HR1':Hid (recB I.taken1 = true):=by
  obtain ⟨_,_,k3,k4⟩:=addE_inv H1.out
  have:I.taken1 = addO I.y.taken I.before:=k4
  rw [Hid,this]; exact k3
 have hL6:(((((earnL I.r.wages I.merged++linesK 3 I.before)++I.levyL I.r.schemes)++linesK 6 [⟨⟨#[]⟩,I.tax⟩])++linesK 7 I.attached)++linesK 8 I.after).length≤201:=by
  have:=List.length_filter_le nz I.after
  rw [List.length_append]
  simp only [linesK,List.length_map] at this hL5 ⊢
  omega
 have hl5:I.left5 = I.b.c - sumE I.before - I.levies - I.tax - sumE I.attached - sumE I.after:=rfl
 have HLN:Hid (addE I.taken1 I.after = 0→∀ ys:List LineT,ys.Perm ((((((earnL I.r.wages I.merged++linesK 3 I.before)++I.levyL I.r.schemes)++linesK 6 [⟨⟨#[]⟩,I.tax⟩])++linesK 7 I.attached)++linesK 8 I.after)++lastL (I.b.c - sumE I.before - I.levies - I.tax - sumE I.attached - sumE I.after))→ys.Pairwise (fun a b=>lessL b a = false)→ys = I.lines):=fun h3 ys hp hs=>by
  have he0:I.err = 0:=HPRE.out.err3 H1.out HTE3.out h3
  exact sorted_perm (HOK.out.slip he0).sorted (hp.trans (show I.made.Perm I.lines from I.made_perm)) hs
 have hyl53:y.ins.length≤53:=by
  have h1:=HOK.out.y.len
  have h2:=HOK.out.y.p1
  rw [hyi.2.2] at h1
  omega
 have in0:0≤I.income:=by rw [HINC.out]; omega
 have in1:I.income≤1000000000:=by rw [HINC.out]; omega
 have f2':0≤sumE I.after:=f3
 have f4':sumE I.after≤max I.left4 0:=f4
 obtain ⟨er3,her3⟩ : ∃ er3,er3 = addE I.taken1 I.after:=⟨_,rfl⟩
 rw [← her3] at HLN
 have HER3:=Lib.hid her3
 go_wp2_with fail
 rw [rounds_succ]
 go_wp2_with fail
 refine (finishP32 hI14 HY1.out A1 A2 cc1 cc2 I.taken1 I.after rfl hLr rfl hLa HR1'.out HAX.out (by omega) (by omega) (by show _≤I.b.c - sumE I.before - I.levies - I.tax - sumE I.attached - sumE I.after; omega) (by show I.b.c - sumE I.before - I.levies - I.tax - sumE I.attached - sumE I.after≤_; omega) p0 (by show y.periods≤53; omega) hyl53 y0 y1 u0 u1 in0 in1 x0 x1 (by show 0≤I.levies; omega) (by show I.levies≤_; omega) c0 c1 I.taken2 er3 rfl her3 I.lines HLN.out).mono ?_
 rintro x w15 hfin
 clear hI14 hLr hLa hBf14 her3 haf hl5 hl4 hl3
 rcases hfin with ⟨h3,A,cp,Ai,ci,At,ct,rfl,hS1,hS2,hS3,hF1,hF2,hF3,hb15⟩ | ⟨h3,rfl,hb15⟩
 rotate_left
 ·
  have HER:Hid (I.err = er3):=HPRE.out.err3 H1.out HTE3.out HER3.out.symm
  clear HLN hL6
  have hner:(er3 != 0) = true:=by simp [h3]
  have hbsE:=hBs1.below hb15 lgs
  have hbnE:=hBn1.below hb15 lgn
  have hzf:=zeroed_facts hbsE hbnE hne
  have hzb:=zeroed_below (hbel1.trans ((hb15).mono hbel1.size)) hgs0 hgn0 w15
  have hne':gn ≠ gs:=fun e=>hne e.symm
  have q0:=hbsE.cell 0
  have q1:=hbsE.cell 1
  have q2:=hbsE.cell 2
  have q3:=hbsE.cell 3
  have q4:=hbsE.cell 4
  have q5:=hbsE.cell 5
  have q6:=hbsE.cell 6
  simp only [nqg,nqh,nqi] at q0 q1 q2 q3 q4 q5 q6
  have r0:=hbnE.cell 0
  have r1:=hbnE.cell 1
  have r2:=hbnE.cell 2
  have r3:=hbnE.cell 3
  have r4:=hbnE.cell 4
  simp only [nqg,nqh,nqi] at r0 r1 r2 r3 r4
  have fq0:=hbsE.frozen 0
  have fq1:=hbsE.frozen 1
  have fq2:=hbsE.frozen 2
  have fq3:=hbsE.frozen 3
  have fq4:=hbsE.frozen 4
  have fq5:=hbsE.frozen 5
  have fq6:=hbsE.frozen 6
  have fr0:=hbnE.frozen 0
  have fr1:=hbnE.frozen 1
  have fr2:=hbnE.frozen 2
  have fr3:=hbnE.frozen 3
  have fr4:=hbnE.frozen 4
  have lq:=hbsE.lt
  have lr:=hbnE.lt
  go_wp2
  clear q0 q1 q2 q3 q4 q5 q6 r0 r1 r2 r3 r4
  change bodyPost _ _ _ _ _ (zeroed w15 gs gn)
  obtain ⟨hzs,hzn⟩:=hzf
  generalize zeroed w15 gs gn = WW at hzs hzn hzb ⊢
  have q0:=hzs.cell 0
  have q1:=hzs.cell 1
  have q2:=hzs.cell 2
  have q3:=hzs.cell 3
  have q4:=hzs.cell 4
  have q5:=hzs.cell 5
  have q6:=hzs.cell 6
  simp only [nqg,nqh,nqi] at q0 q1 q2 q3 q4 q5 q6
  have r0:=hzn.cell 0
  have r1:=hzn.cell 1
  have r2:=hzn.cell 2
  have r3:=hzn.cell 3
  have r4:=hzn.cell 4
  simp only [nqg,nqh,nqi] at r0 r1 r2 r3 r4
  clear hzs hzn
  refine bodyPost_ret (v:=_) (by simp [results,Tryz.results21,go_sem,q0,q1,q2,q3,q4,q5,q6,r0,r1,r2,r3,r4]; rfl) rfl ?_
  exact SlipPostF.fail (HER.out) h3 hzb
 have he0:I.err = 0:=HPRE.out.err3 H1.out HTE3.out (HER3.out.symm.trans h3)
 have hbs15:=hBs1.below hb15 lgs
 have hbn15:=hBn1.below hb15 lgn
 have hne':gn ≠ gs:=fun e=>hne e.symm
 have hs7:=put7_blk hbs15 (.int .i64 I.b.g) (.int .i64 I.b.c) (.int .i64 I.b.t) (.int .i64 I.b.i) (.int .i64 I.b.a) (.int .i64 (I.b.c - I.levies - I.tax)) (.slice A I.lines.length cp)
 have hn7:=hbn15.grown (put7_grown w15 gs (.int .i64 I.b.g) (.int .i64 I.b.c) (.int .i64 I.b.t) (.int .i64 I.b.i) (.int .i64 I.b.a) (.int .i64 (I.b.c - I.levies - I.tax)) (.slice A I.lines.length cp)) (fun e=>hne' (by injection e))
 have hn8:=put5_blk hn7 (.int .i64 (y.periods+1)) (.int .i64 (y.income+I.income)) (.int .i64 (y.withheld+I.tax)) (.slice Ai (y.ins.length+1) ci) (.slice At I.taken2.length ct)
 have hs8:=hs7.grown (put5_grown _ gn (.int .i64 (y.periods+1)) (.int .i64 (y.income+I.income)) (.int .i64 (y.withheld+I.tax)) (.slice Ai (y.ins.length+1) ci) (.slice At I.taken2.length ct)) (fun e=>hne (by injection e))
 have hE:Ex gs gn w15 (put5 (put7 w15 gs (.int .i64 I.b.g) (.int .i64 I.b.c) (.int .i64 I.b.t) (.int .i64 I.b.i) (.int .i64 I.b.a) (.int .i64 (I.b.c - I.levies - I.tax)) (.slice A I.lines.length cp)) gn (.int .i64 (y.periods+1)) (.int .i64 (y.income+I.income)) (.int .i64 (y.withheld+I.tax)) (.slice Ai (y.ins.length+1) ci) (.slice At I.taken2.length ct)):=((Ex.refl gs gn w15).grown (put7_grown w15 gs (.int .i64 I.b.g) (.int .i64 I.b.c) (.int .i64 I.b.t) (.int .i64 I.b.i) (.int .i64 I.b.a) (.int .i64 (I.b.c - I.levies - I.tax)) (.slice A I.lines.length cp)) (.inl rfl)).grown (put5_grown _ gn (.int .i64 (y.periods+1)) (.int .i64 (y.income+I.income)) (.int .i64 (y.withheld+I.tax)) (.slice Ai (y.ins.length+1) ci) (.slice At I.taken2.length ct)) (.inr rfl)
 have hT1:=hS1.ex hE (fun _ q off e=>by have:w1.heap.size≤q:=hF1 _ e; exact ⟨by show q ≠ gs; omega,by show q ≠ gn; omega⟩)
 have hT2:=hS2.ex hE (fun _ q off e=>by have:w1.heap.size≤q:=hF2 _ e; exact ⟨by show q ≠ gs; omega,by show q ≠ gn; omega⟩)
 have hT3:=hS3.ex hE (fun _ q off e=>by have:w1.heap.size≤q:=hF3 _ e; exact ⟨by show q ≠ gs; omega,by show q ≠ gn; omega⟩)
 have hbf:=hE.below (hbel1.trans (hb15.mono hbel1.size)) (Nat.le_trans hbel1.size hb15.size) hgs0 hgn0
 have HFRS:Hid ((∀ a,A = some a→w.heap.size≤a.block)∧∀ a,Ai = some a→w.heap.size≤a.block):=⟨fun a ha=>Nat.le_trans hbel1.size (hF1 a ha),fun a ha=>Nat.le_trans hbel1.size (hF2 a ha)⟩
 have q0:=hbs15.cell 0
 have q1:=hbs15.cell 1
 have q2:=hbs15.cell 2
 have q3:=hbs15.cell 3
 have q4:=hbs15.cell 4
 have q5:=hbs15.cell 5
 have q6:=hbs15.cell 6
 simp only [nqg,nqh,nqi] at q0 q1 q2 q3 q4 q5 q6
 have r0:=hbn15.cell 0
 have r1:=hbn15.cell 1
 have r2:=hbn15.cell 2
 have r3:=hbn15.cell 3
 have r4:=hbn15.cell 4
 simp only [nqg,nqh,nqi] at r0 r1 r2 r3 r4
 have fq0:=hbs15.frozen 0
 have fq1:=hbs15.frozen 1
 have fq2:=hbs15.frozen 2
 have fq3:=hbs15.frozen 3
 have fq4:=hbs15.frozen 4
 have fq5:=hbs15.frozen 5
 have fq6:=hbs15.frozen 6
 have fr0:=hbn15.frozen 0
 have fr1:=hbn15.frozen 1
 have fr2:=hbn15.frozen 2
 have fr3:=hbn15.frozen 3
 have fr4:=hbn15.frozen 4
 have lq:=hbs15.lt
 have lr:=hbn15.lt
 clear hs7 hn7 hE hS1 hS2 hS3 hF1 hF2 hF3 hBs1 hBn1
 go_wp2
 clear q0 q1 q2 q3 q4 q5 q6 r0 r1 r2 r3 r4 fq0 fq1 fq2 fq3 fq4 fq5 fq6 fr0 fr1 fr2 fr3 fr4
 change bodyPost _ _ _ _ _ (put5 (put7 w15 gs (.int .i64 I.b.g) (.int .i64 I.b.c) (.int .i64 I.b.t) (.int .i64 I.b.i) (.int .i64 I.b.a) (.int .i64 (I.b.c - I.levies - I.tax)) (.slice A I.lines.length cp)) gn (.int .i64 (y.periods+1)) (.int .i64 (y.income+I.income)) (.int .i64 (y.withheld+I.tax)) (.slice Ai (y.ins.length+1) ci) (.slice At I.taken2.length ct))
 generalize put5 (put7 w15 gs (.int .i64 I.b.g) (.int .i64 I.b.c) (.int .i64 I.b.t) (.int .i64 I.b.i) (.int .i64 I.b.a) (.int .i64 (I.b.c - I.levies - I.tax)) (.slice A I.lines.length cp)) gn (.int .i64 (y.periods+1)) (.int .i64 (y.income+I.income)) (.int .i64 (y.withheld+I.tax)) (.slice Ai (y.ins.length+1) ci) (.slice At I.taken2.length ct) = WF at hs8 hn8 hT1 hT2 hT3 hbf ⊢
 have q0:=hs8.cell 0
 have q1:=hs8.cell 1
 have q2:=hs8.cell 2
 have q3:=hs8.cell 3
 have q4:=hs8.cell 4
 have q5:=hs8.cell 5
 have q6:=hs8.cell 6
 simp only [nqg,nqh,nqi] at q0 q1 q2 q3 q4 q5 q6
 have r0:=hn8.cell 0
 have r1:=hn8.cell 1
 have r2:=hn8.cell 2
 have r3:=hn8.cell 3
 have r4:=hn8.cell 4
 simp only [nqg,nqh,nqi] at r0 r1 r2 r3 r4
 have HT1:=Lib.hid hT1
 have HT2:=Lib.hid hT2
 have HT3:=Lib.hid hT3
 have HBF:=Lib.hid hbf
 clear hs8 hn8 hT1 hT2 hT3 hbf
 refine bodyPost_ret (v:=_) (by simp [results,Tryz.results21,go_sem,q0,q1,q2,q3,q4,q5,q6,r0,r1,r2,r3,r4]; rfl) rfl ?_
 have hnx:I.next.periods = y.periods+1∧I.next.income = y.income+I.income∧I.next.withheld = y.withheld+I.tax∧I.next.insured = y.ins++[I.insured]:=by
  unfold NetIn.next; rw [HIY.out]; exact ⟨rfl,rfl,rfl,rfl⟩
 refine ⟨.inl ⟨he0,A,cp,Ai,ci,At,ct,?_,HT1.out,by rw [hnx.2.2.2]; exact HT2.out,HT3.out,HBF.out⟩,fun s0 s1 s2 s3 s4 s5 A' n c y0 y1 y2 B m d t er e=>?_⟩
 ·
  rw [hnx.1,hnx.2.1,hnx.2.2.1,hnx.2.2.2,List.length_append]
  rfl
 ·
  injection e with e
  injection e with e
  simp only [Array.mk.injEq,List.cons.injEq,Value.agg.injEq,Value.slice.injEq,and_true] at e
  obtain ⟨⟨_,_,_,_,_,_,rfl,_⟩,⟨_,_,_,⟨rfl,_⟩,_⟩,_⟩:=e
  exact HFRS.out
theorem compute_ok (r:RulesM) (p:PersonM) (y:YearM) (Ak E : Option Addr) (kc ec : Nat) (kept e : List Elem) (first:Bool) (w:World) (hr:r.In w) (hp:p.In w) (hy:y.In w) (hk:SliceOf encE 2 w w.heap.size Ak kept) (he:SliceOf encE 2 w w.heap.size E e) (hel:e.length≤1000000) (hok:InOk (mkI r p y kept first e)) :
  Calls Tryz.prog 21 #[r.val,p.val,y.val,.slice Ak kept.length kc,.bool first,.slice E e.length ec] w (SlipPost (mkI r p y kept first e) w) :=
 (compute_okF r p y Ak E kc ec kept e first w hr hp hy hk he hel hok).mono fun _ _ h=>h.1
end Go.Proofs.YtlhkojcmcmkmaaaGreat
