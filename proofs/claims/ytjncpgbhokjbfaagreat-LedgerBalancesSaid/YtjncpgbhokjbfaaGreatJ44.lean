/- Joined texts: Cmp1 BlkOps. Conditions: as stated. -/
import Derived.Deep.MidRow
import Derived.Test.YtjncpgbhokjbfaaGreatJ01
import Derived.Test.YtjncpgbhokjbfaaGreatJ43
namespace Go.Proofs.YtjncpgbhokjbfaaGreat
open Go.RowKit
theorem eq_or_ne' (n:Int) : n = 0 ∨ n ≠ 0:=by omega
theorem pre_len128 {l:List Elem} (h:preErr l = 0) : (sumsP l).length≤128:=by
 have h1:l.length≤128:=by
  unfold preErr at h
  by_cases h2:128 < l.length
  ·
   rw [if_pos h2] at h; cases h
  ·
   omega
 exact Nat.le_trans (sumsP_length l) h1
theorem err_3 {I:NetIn} (h:I.r.count≤I.y.periods) : I.err = 3:=by unfold NetIn.err; rw [if_pos h]
theorem err_of {I:NetIn} (h:I.y.periods < I.r.count) {n:Int} (ho:ofErr I.r.wages I.e (sumsP I.e) = n) (hn:n ≠ 0) : I.err = n:=by unfold NetIn.err; rw [if_neg (by omega),ho,if_pos hn]
set_option maxRecDepth 100000 in
set_option maxHeartbeats 8000000 in
theorem compute32_ok (r:RulesM) (p:PersonM) (y:YearM) (Ak E : Option Addr) (kc ec : Nat) (kept e : List Elem) (first:Bool) (w:World) (hr:r.In w) (hp:p.In w) (hy:y.In w) (hk:SliceOf encE 2 w w.heap.size Ak kept) (he:SliceOf encE 2 w w.heap.size E e) (hel:e.length≤1000000) (hok:InOk (mkI r p y kept first e)) :
  Calls Tryz.prog 27 #[r.val,p.val,y.val,.slice Ak kept.length kc,.bool first,.slice E e.length ec] w (SlipPost (mkI r p y kept first e) w):=by
 obtain ⟨I,hI⟩ : ∃ I,I = mkI r p y kept first e:=⟨_,rfl⟩
 rw [← hI] at hok ⊢
 have hIr:I.r = r.t:=by rw [hI]; rfl
 have hIp:I.p = p.t:=by rw [hI]; rfl
 have hIy:I.y = y.t:=by rw [hI]; rfl
 have hIk:I.kept = kept:=by rw [hI]; rfl
 have hIe:I.e = e:=by rw [hI]; rfl
 have hfi:I.first = first:=by rw [hI]; rfl
 clear hI
 subst hIk hIe
 have hrk:=hok.r
 rw [hIr] at hrk
 have hpk:=hok.p
 rw [hIp] at hpk
 have hyk:=hok.y
 rw [hIy] at hyk
 have hsame:∀ x ∈ p.es,(x.l.length:Int) = y.periods:=fun x hx=>by
  have:=hok.same x.v (by rw [hIp]; exact List.mem_map.2 ⟨x,hx,rfl⟩)
  rw [hIy] at this
  exact this
 have HCK:Hid (∀ W',Below w.heap.size w W'→Calls Tryz.prog 50 #[.agg #[.slice r.Aw r.ws.length r.cw,.slice r.As r.ss.length r.cs,.int .i64 r.tm.t.method,.slice r.tm.Ab r.tm.t.brs.length r.tm.cb,.int .i64 r.tm.t.allowance,.int .i64 r.tm.t.credit,.int .i64 r.tm.t.unit,.int .i64 r.tm.t.mode,.slice r.tm.Ar r.tm.t.rows.length r.tm.cr,.int .i64 r.count,.int .i64 r.sh.fixed,.int .i64 r.sh.dependent,.int .i64 r.sh.lower,.int .i64 r.sh.share,.int .i64 r.sh.top,.int .i64 r.recover],.agg #[.int .i64 p.deps,.slice p.Ad p.ds.length p.cd,.slice p.Ao p.os.length p.co,.slice p.Ae p.es.length p.ce],.agg #[.int .i64 y.periods,.int .i64 y.income,.int .i64 y.withheld,.slice y.Ai y.ins.length y.ci,.slice y.At y.taken.length y.ct],.slice Ak I.kept.length kc] W' fun e w'=>e = .returned (.int .i64 (chkE y.periods r.count))∧Below W'.heap.size W' w'):=fun W' hb=>check32_ok r p y Ak kc I.kept W' (hr.adv hb) (hp.adv hb) (hy.adv hb) (hk.adv hb) hrk hpk hyk hok.kept hsame
 have hvw:validB r.ws = true:=hrk.wages
 have HOF:Hid (∀ W',Below w.heap.size w W'→Calls Tryz.prog 51 #[.slice r.Aw r.ws.length r.cw,.slice E I.e.length ec] W' fun x w'=>x = .returned (ofV r.ws I.e (sumsP I.e))∧Below W'.heap.size W' w'):=fun W' hb=>of26_any r.Aw E r.cw ec r.ws I.e W' (hr.ws.adv hb) (validB_facts hvw).2 (by have:=(validB_facts hvw).1; omega) (he.adv hb) hok.size (by omega)
 have HMG:Hid (∀ W',Below w.heap.size w W'→Calls Tryz.prog 52 #[.slice E I.e.length ec] W' fun x w'=>∃ v,x = .returned (.tuple #[v,.int .i64 (preErr I.e)])∧Own encE 2 109 w' W'.heap.size v (mergeR I.e)∧Below W'.heap.size W' w'):=fun W' hb=>merge26_any E ec I.e W' (he.adv hb) hok.size (by omega)
 have hws:I.r.wages = r.ws:=by rw [hIr]; rfl
 have hcp:(I.r.count = r.count)∧I.y.periods = y.periods:=by rw [hIr,hIy]; exact ⟨rfl,rfl⟩
 have HOK:=Lib.hid hok
 have HIR:=Lib.hid hIr
 have HIP:=Lib.hid hIp
 have HIY:=Lib.hid hIy
 have HFI:=Lib.hid hfi
 have HWS:=Lib.hid hws
 have HCP:=Lib.hid hcp
 have HHR:=Lib.hid hr
 have HHP:=Lib.hid hp
 have HHY:=Lib.hid hy
 have HHK:=Lib.hid hk
 clear hok hIr hIp hIy hfi hws hcp hrk hpk hyk hsame hvw hr hp hy hk he
 unfold RulesM.val PersonM.val YearM.val
 go_enter Tryz.func27,Tryz.ntmps27
 have hBr:=((((Blk.new w 73 #[.slice r.Aw r.ws.length r.cw,.slice r.As r.ss.length r.cs,.int .i64 r.tm.t.method,.slice r.tm.Ab r.tm.t.brs.length r.tm.cb,.int .i64 r.tm.t.allowance,.int .i64 r.tm.t.credit,.int .i64 r.tm.t.unit,.int .i64 r.tm.t.mode,.slice r.tm.Ar r.tm.t.rows.length r.tm.cr,.int .i64 r.count,.int .i64 r.sh.fixed,.int .i64 r.sh.dependent,.int .i64 r.sh.lower,.int .i64 r.sh.share,.int .i64 r.sh.top,.int .i64 r.recover]).alloc (.cells #[.int .i64 p.deps,.slice p.Ad p.ds.length p.cd,.slice p.Ao p.os.length p.co,.slice p.Ae p.es.length p.ce] 78)).alloc (.cells #[.int .i64 y.periods,.int .i64 y.income,.int .i64 y.withheld,.slice y.Ai y.ins.length y.ci,.slice y.At y.taken.length y.ct] 81)).alloc (.cells #[.int .i64 0,.int .i64 0,.int .i64 0,.int .i64 0,.int .i64 0,.int .i64 0,.slice none 0 0] 41)).alloc (.cells #[.int .i64 0,.int .i64 0,.int .i64 0,.slice none 0 0,.slice none 0 0] 81)
 have hBp:=(((Blk.new (w.alloc (.cells #[.slice r.Aw r.ws.length r.cw,.slice r.As r.ss.length r.cs,.int .i64 r.tm.t.method,.slice r.tm.Ab r.tm.t.brs.length r.tm.cb,.int .i64 r.tm.t.allowance,.int .i64 r.tm.t.credit,.int .i64 r.tm.t.unit,.int .i64 r.tm.t.mode,.slice r.tm.Ar r.tm.t.rows.length r.tm.cr,.int .i64 r.count,.int .i64 r.sh.fixed,.int .i64 r.sh.dependent,.int .i64 r.sh.lower,.int .i64 r.sh.share,.int .i64 r.sh.top,.int .i64 r.recover] 73)) 78 #[.int .i64 p.deps,.slice p.Ad p.ds.length p.cd,.slice p.Ao p.os.length p.co,.slice p.Ae p.es.length p.ce]).alloc (.cells #[.int .i64 y.periods,.int .i64 y.income,.int .i64 y.withheld,.slice y.Ai y.ins.length y.ci,.slice y.At y.taken.length y.ct] 81)).alloc (.cells #[.int .i64 0,.int .i64 0,.int .i64 0,.int .i64 0,.int .i64 0,.int .i64 0,.slice none 0 0] 41)).alloc (.cells #[.int .i64 0,.int .i64 0,.int .i64 0,.slice none 0 0,.slice none 0 0] 81)
 have hBy:=((Blk.new ((w.alloc (.cells #[.slice r.Aw r.ws.length r.cw,.slice r.As r.ss.length r.cs,.int .i64 r.tm.t.method,.slice r.tm.Ab r.tm.t.brs.length r.tm.cb,.int .i64 r.tm.t.allowance,.int .i64 r.tm.t.credit,.int .i64 r.tm.t.unit,.int .i64 r.tm.t.mode,.slice r.tm.Ar r.tm.t.rows.length r.tm.cr,.int .i64 r.count,.int .i64 r.sh.fixed,.int .i64 r.sh.dependent,.int .i64 r.sh.lower,.int .i64 r.sh.share,.int .i64 r.sh.top,.int .i64 r.recover] 73)).alloc (.cells #[.int .i64 p.deps,.slice p.Ad p.ds.length p.cd,.slice p.Ao p.os.length p.co,.slice p.Ae p.es.length p.ce] 78)) 81 #[.int .i64 y.periods,.int .i64 y.income,.int .i64 y.withheld,.slice y.Ai y.ins.length y.ci,.slice y.At y.taken.length y.ct]).alloc (.cells #[.int .i64 0,.int .i64 0,.int .i64 0,.int .i64 0,.int .i64 0,.int .i64 0,.slice none 0 0] 41)).alloc (.cells #[.int .i64 0,.int .i64 0,.int .i64 0,.slice none 0 0,.slice none 0 0] 81)
 have hBs:=(Blk.new (((w.alloc (.cells #[.slice r.Aw r.ws.length r.cw,.slice r.As r.ss.length r.cs,.int .i64 r.tm.t.method,.slice r.tm.Ab r.tm.t.brs.length r.tm.cb,.int .i64 r.tm.t.allowance,.int .i64 r.tm.t.credit,.int .i64 r.tm.t.unit,.int .i64 r.tm.t.mode,.slice r.tm.Ar r.tm.t.rows.length r.tm.cr,.int .i64 r.count,.int .i64 r.sh.fixed,.int .i64 r.sh.dependent,.int .i64 r.sh.lower,.int .i64 r.sh.share,.int .i64 r.sh.top,.int .i64 r.recover] 73)).alloc (.cells #[.int .i64 p.deps,.slice p.Ad p.ds.length p.cd,.slice p.Ao p.os.length p.co,.slice p.Ae p.es.length p.ce] 78)).alloc (.cells #[.int .i64 y.periods,.int .i64 y.income,.int .i64 y.withheld,.slice y.Ai y.ins.length y.ci,.slice y.At y.taken.length y.ct] 81)) 41 #[.int .i64 0,.int .i64 0,.int .i64 0,.int .i64 0,.int .i64 0,.int .i64 0,.slice none 0 0]).alloc (.cells #[.int .i64 0,.int .i64 0,.int .i64 0,.slice none 0 0,.slice none 0 0] 81)
 have hBn:=Blk.new ((((w.alloc (.cells #[.slice r.Aw r.ws.length r.cw,.slice r.As r.ss.length r.cs,.int .i64 r.tm.t.method,.slice r.tm.Ab r.tm.t.brs.length r.tm.cb,.int .i64 r.tm.t.allowance,.int .i64 r.tm.t.credit,.int .i64 r.tm.t.unit,.int .i64 r.tm.t.mode,.slice r.tm.Ar r.tm.t.rows.length r.tm.cr,.int .i64 r.count,.int .i64 r.sh.fixed,.int .i64 r.sh.dependent,.int .i64 r.sh.lower,.int .i64 r.sh.share,.int .i64 r.sh.top,.int .i64 r.recover] 73)).alloc (.cells #[.int .i64 p.deps,.slice p.Ad p.ds.length p.cd,.slice p.Ao p.os.length p.co,.slice p.Ae p.es.length p.ce] 78)).alloc (.cells #[.int .i64 y.periods,.int .i64 y.income,.int .i64 y.withheld,.slice y.Ai y.ins.length y.ci,.slice y.At y.taken.length y.ct] 81)).alloc (.cells #[.int .i64 0,.int .i64 0,.int .i64 0,.int .i64 0,.int .i64 0,.int .i64 0,.slice none 0 0] 41)) 81 #[.int .i64 0,.int .i64 0,.int .i64 0,.slice none 0 0,.slice none 0 0]
 have hbel:=bel_alloc (bel_alloc (bel_alloc (bel_alloc (below_new w (.cells #[.slice r.Aw r.ws.length r.cw,.slice r.As r.ss.length r.cs,.int .i64 r.tm.t.method,.slice r.tm.Ab r.tm.t.brs.length r.tm.cb,.int .i64 r.tm.t.allowance,.int .i64 r.tm.t.credit,.int .i64 r.tm.t.unit,.int .i64 r.tm.t.mode,.slice r.tm.Ar r.tm.t.rows.length r.tm.cr,.int .i64 r.count,.int .i64 r.sh.fixed,.int .i64 r.sh.dependent,.int .i64 r.sh.lower,.int .i64 r.sh.share,.int .i64 r.sh.top,.int .i64 r.recover] 73)) (.cells #[.int .i64 p.deps,.slice p.Ad p.ds.length p.cd,.slice p.Ao p.os.length p.co,.slice p.Ae p.es.length p.ce] 78)) (.cells #[.int .i64 y.periods,.int .i64 y.income,.int .i64 y.withheld,.slice y.Ai y.ins.length y.ci,.slice y.At y.taken.length y.ct] 81)) (.cells #[.int .i64 0,.int .i64 0,.int .i64 0,.int .i64 0,.int .i64 0,.int .i64 0,.slice none 0 0] 41)) (.cells #[.int .i64 0,.int .i64 0,.int .i64 0,.slice none 0 0,.slice none 0 0] 81)
 simp only [World.size_alloc] at hBp hBy hBs hBn
 refine wp_stmt fun K HK=>?_
 go_wp2_with fail
 refine HK.out _ _ ?_
 clear HK K
 generalize World.alloc _ (Obj.cells #[.int .i64 0,.int .i64 0,.int .i64 0,.slice none 0 0,.slice none 0 0] 81) = W at hBr hBp hBy hBs hBn hbel ⊢
 obtain ⟨gp,hgp⟩ : ∃ g,g = w.heap.size+1:=⟨_,rfl⟩
 obtain ⟨gy,hgy⟩ : ∃ g,g = w.heap.size+1+1:=⟨_,rfl⟩
 obtain ⟨gs,hgs0⟩ : ∃ g,g = w.heap.size+1+1+1:=⟨_,rfl⟩
 obtain ⟨gn,hgn0⟩ : ∃ g,g = w.heap.size+1+1+1+1:=⟨_,rfl⟩
 rw [← hgn0] at hBn ⊢
 rw [← hgs0] at hBs ⊢
 rw [← hgy] at hBy ⊢
 rw [← hgp] at hBp ⊢
 have hgs:w.heap.size≤gs:=by omega
 have hgn:w.heap.size≤gn:=by omega
 have hne:gs ≠ gn:=by omega
 clear hgp hgy hgs0 hgn0
 -- check
 have r0:=hBr.cell 0
 have r1:=hBr.cell 1
 have r2:=hBr.cell 2
 have r3:=hBr.cell 3
 have r4:=hBr.cell 4
 have r5:=hBr.cell 5
 have r6:=hBr.cell 6
 have r7:=hBr.cell 7
 have r8:=hBr.cell 8
 have r9:=hBr.cell 9
 have r10:=hBr.cell 10
 have r11:=hBr.cell 11
 have r12:=hBr.cell 12
 have r13:=hBr.cell 13
 have r14:=hBr.cell 14
 have r15:=hBr.cell 15
 simp only [nqg,nqh,nqi] at r0 r1 r2 r3 r4 r5 r6 r7 r8 r9 r10 r11 r12 r13 r14 r15
 have p0:=hBp.cell 0
 have p1:=hBp.cell 1
 have p2:=hBp.cell 2
 have p3:=hBp.cell 3
 simp only [nqg,nqh,nqi] at p0 p1 p2 p3
 have y0:=hBy.cell 0
 have y1:=hBy.cell 1
 have y2:=hBy.cell 2
 have y3:=hBy.cell 3
 have y4:=hBy.cell 4
 simp only [nqg,nqh,nqi] at y0 y1 y2 y3 y4
 by_cases h3:r.count≤y.periods
 ·
  have hce:chkE y.periods r.count = 3:=by rw [chkE,if_pos h3]
  have HERR:Hid (I.err = 3):=err_3 (by rw [HCP.out.1,HCP.out.2]; exact h3)
  rw [hce] at HCK
  clear hce h3
  refine wp_stmt fun K HK=>?_
  go_wp2_with fail
  refine Calls.mono (HCK.out _ hbel) ?_
  rintro e W2 ⟨rfl,hb2⟩
  have hbel2:=bel_adv hbel hb2
  have hBs2:=hBs.adv hb2
  have hBn2:=hBn.adv hb2
  clear HK r0 r1 r2 r3 r4 r5 r6 r7 r8 r9 r10 r11 r12 r13 r14 r15 p0 p1 p2 p3 y0 y1 y2 y3 y4 hBr hBp hBy hBs hBn hbel hb2
  have hzf:=zeroed_facts hBs2 hBn2 hne
  have hzb:=zeroed_below hbel2 hgs hgn W2
  have hne':gn ≠ gs:=fun e=>hne e.symm
  have q0:=hBs2.cell 0
  have q1:=hBs2.cell 1
  have q2:=hBs2.cell 2
  have q3:=hBs2.cell 3
  have q4:=hBs2.cell 4
  have q5:=hBs2.cell 5
  have q6:=hBs2.cell 6
  simp only [nqg,nqh,nqi] at q0 q1 q2 q3 q4 q5 q6
  have r0:=hBn2.cell 0
  have r1:=hBn2.cell 1
  have r2:=hBn2.cell 2
  have r3:=hBn2.cell 3
  have r4:=hBn2.cell 4
  simp only [nqg,nqh,nqi] at r0 r1 r2 r3 r4
  have fq0:=hBs2.frozen 0
  have fq1:=hBs2.frozen 1
  have fq2:=hBs2.frozen 2
  have fq3:=hBs2.frozen 3
  have fq4:=hBs2.frozen 4
  have fq5:=hBs2.frozen 5
  have fq6:=hBs2.frozen 6
  have fr0:=hBn2.frozen 0
  have fr1:=hBn2.frozen 1
  have fr2:=hBn2.frozen 2
  have fr3:=hBn2.frozen 3
  have fr4:=hBn2.frozen 4
  have lq:=hBs2.lt
  have lr:=hBn2.lt
  go_wp2
  clear q0 q1 q2 q3 q4 q5 q6 r0 r1 r2 r3 r4
  change bodyPost _ _ _ _ _ (zeroed W2 gs gn)
  obtain ⟨hzs,hzn⟩:=hzf
  generalize zeroed W2 gs gn = WW at hzs hzn hzb ⊢
  have q0:=hzs.cell 0
  have q1:=hzs.cell 1
  have q2:=hzs.cell 2
  have q3:=hzs.cell 3
  have q4:=hzs.cell 4
  have q5:=hzs.cell 5
  have q6:=hzs.cell 6
  simp only [nqg,nqh,nqi] at q0 q1 q2 q3 q4 q5 q6
  have r0:=hzn.cell 0
  have r1:=hzn.cell 1
  have r2:=hzn.cell 2
  have r3:=hzn.cell 3
  have r4:=hzn.cell 4
  simp only [nqg,nqh,nqi] at r0 r1 r2 r3 r4
  clear hzs hzn
  refine bodyPost_ret (v:=_) (by simp [results,Tryz.results27,go_sem,q0,q1,q2,q3,q4,q5,q6,r0,r1,r2,r3,r4]; rfl) rfl ?_
  exact SlipPost.fail (HERR.out) (by omega) hzb
 have hce:chkE y.periods r.count = 0:=by rw [chkE,if_neg h3]
 have HPER:Hid (I.y.periods < I.r.count):=by rw [Hid,HCP.out.1,HCP.out.2]; omega
 rw [hce] at HCK
 clear hce h3
 refine wp_stmt fun K HK=>?_
 go_wp2_with fail
 refine Calls.mono (HCK.out _ hbel) ?_
 rintro e W2 ⟨rfl,hb2⟩
 clear HCK r0 r1 r2 r3 r4 r5 r6 r7 r8 r9 r10 r11 r12 r13 r14 r15 p0 p1 p2 p3 y0 y1 y2 y3 y4
 go_wp2_with fail
 refine HK.out _ _ ?_
 clear HK K
 have hbel2:=bel_adv hbel hb2
 have hBr2:=hBr.adv hb2
 have r0:=hBr2.cell 0
 simp only [nqg,nqh] at r0
 have lr2:=hBr2.lt
 -- the bases
 have HO2:=Lib.hid (HOF.out W2 hbel2)
 rw [ofV] at HO2
 rcases eq_or_ne' (ofErr r.ws I.e (sumsP I.e)) with ho | ho
 rotate_left
 ·
  have HERR:Hid (I.err = ofErr r.ws I.e (sumsP I.e)):=err_of HPER.out (by rw [HWS.out]) ho
  rw [if_neg ho] at HO2
  generalize ofErr r.ws I.e (sumsP I.e) = n1 at *
  have hn1':(n1 != 0) = true:=by simp [ho]
  have HN0:=Lib.hid ho
  clear ho
  refine wp_stmt fun K HK=>?_
  go_wp2_with fail
  refine Calls.mono HO2.out ?_
  rintro e W3 ⟨rfl,hb3⟩
  unfold encBas zeroB
  go_wp2_with fail
  refine HK.out _ _ ?_
  have hb3':=bel_alloc (bel_adv hb2 hb3) (.cells #[.int .i64 0,.int .i64 0,.int .i64 0,.int .i64 0,.int .i64 0] 38)
  have hbel3:=bel_adv hbel hb3'
  have hBs3:=hBs.adv hb3'
  have hBn3:=hBn.adv hb3'
  clear HK K r0 lr2 hBr2 hbel2 HO2
  generalize World.alloc W3 _ = W4 at hb3' hbel3 hBs3 hBn3 ⊢
  refine wp_stmt fun K HK=>?_
  clear HK hBr hBp hBy hBs hBn hbel hb2 hb3 hb3'
  have hzf:=zeroed_facts hBs3 hBn3 hne
  have hzb:=zeroed_below hbel3 hgs hgn W4
  have hne':gn ≠ gs:=fun e=>hne e.symm
  have q0:=hBs3.cell 0
  have q1:=hBs3.cell 1
  have q2:=hBs3.cell 2
  have q3:=hBs3.cell 3
  have q4:=hBs3.cell 4
  have q5:=hBs3.cell 5
  have q6:=hBs3.cell 6
  simp only [nqg,nqh,nqi] at q0 q1 q2 q3 q4 q5 q6
  have r0:=hBn3.cell 0
  have r1:=hBn3.cell 1
  have r2:=hBn3.cell 2
  have r3:=hBn3.cell 3
  have r4:=hBn3.cell 4
  simp only [nqg,nqh,nqi] at r0 r1 r2 r3 r4
  have fq0:=hBs3.frozen 0
  have fq1:=hBs3.frozen 1
  have fq2:=hBs3.frozen 2
  have fq3:=hBs3.frozen 3
  have fq4:=hBs3.frozen 4
  have fq5:=hBs3.frozen 5
  have fq6:=hBs3.frozen 6
  have fr0:=hBn3.frozen 0
  have fr1:=hBn3.frozen 1
  have fr2:=hBn3.frozen 2
  have fr3:=hBn3.frozen 3
  have fr4:=hBn3.frozen 4
  have lq:=hBs3.lt
  have lr:=hBn3.lt
  go_wp2
  clear q0 q1 q2 q3 q4 q5 q6 r0 r1 r2 r3 r4
  change bodyPost _ _ _ _ _ (zeroed W4 gs gn)
  obtain ⟨hzs,hzn⟩:=hzf
  generalize zeroed W4 gs gn = WW at hzs hzn hzb ⊢
  have q0:=hzs.cell 0
  have q1:=hzs.cell 1
  have q2:=hzs.cell 2
  have q3:=hzs.cell 3
  have q4:=hzs.cell 4
  have q5:=hzs.cell 5
  have q6:=hzs.cell 6
  simp only [nqg,nqh,nqi] at q0 q1 q2 q3 q4 q5 q6
  have r0:=hzn.cell 0
  have r1:=hzn.cell 1
  have r2:=hzn.cell 2
  have r3:=hzn.cell 3
  have r4:=hzn.cell 4
  simp only [nqg,nqh,nqi] at r0 r1 r2 r3 r4
  clear hzs hzn
  refine bodyPost_ret (v:=_) (by simp [results,Tryz.results27,go_sem,q0,q1,q2,q3,q4,q5,q6,r0,r1,r2,r3,r4]; rfl) rfl ?_
  exact SlipPost.fail (HERR.out) HN0.out hzb
 have hpe:=(ofErr_inv ho).2.1
 rw [if_pos ho,ho] at HO2
 have HOE:=Lib.hid ho
 clear ho
 have HIB:Hid (sumB r.ws (sumsP I.e) = I.b):=by rw [Hid,NetIn.b,HWS.out]
 rw [HIB.out] at HO2
 unfold encBas at HO2
 refine wp_stmt fun K HK=>?_
 go_wp2_with fail
 refine Calls.mono HO2.out ?_
 rintro e W3 ⟨rfl,hb3⟩
 go_wp2_with fail
 refine HK.out _ _ ?_
 clear HK K HO2 r0 lr2 hBr2 HOF
 have hBb:=Blk.new W3 38 #[.int .i64 I.b.g,.int .i64 I.b.c,.int .i64 I.b.t,.int .i64 I.b.i,.int .i64 I.b.a]
 have hb4:=bel_alloc (bel_adv hb2 hb3) (.cells #[.int .i64 I.b.g,.int .i64 I.b.c,.int .i64 I.b.t,.int .i64 I.b.i,.int .i64 I.b.a] 38)
 generalize World.alloc W3 _ = W4 at hBb hb4 ⊢
 have hbel4:=bel_adv hbel hb4
 -- no error
 refine wp_stmt fun K HK=>?_
 go_wp2_with fail
 refine HK.out _ _ ?_
 clear HK K
 -- merged
 have HM2:=Lib.hid (HMG.out W4 hbel4)
 refine wp_stmt fun K HK=>?_
 go_wp2_with fail
 refine Calls.mono HM2.out ?_
 rintro e W5 ⟨v5,rfl,hown5,hb5⟩
 go_wp2_with fail
 refine HK.out _ _ ?_
 clear HK K HM2 HMG
 have hmr:mergeR I.e = I.merged:=by rw [mergeR,if_pos hpe]; rfl
 rw [hmr] at hown5
 obtain ⟨A8,c8,rfl,hS8,_,_⟩:=hown5.form encE_len
 refine wp_stmt fun K HK=>?_
 go_wp2_with fail
 refine HK.out _ _ ?_
 clear HK K
 have hml:I.merged.length≤1000:=by
  have h1:I.merged.length≤(sumsP I.e).length:=List.length_filter_le _ _
  have h2:=pre_len128 hpe
  omega
 have hb6:=bel_adv hb4 hb5
 have hbel6:=bel_adv hbel hb6
 exact cmp_p1b w W5 w.heap.size gp gy gs gn W3.heap.size r p y I Ak A8 kc c8 first _ _ _ _ _ _ _ _ _ _ _ _ _ _ _ _ _ _ _ _ _ _ _ _ _ _ _ _ _ _ _ _ _ _ _ _ _ _ _ _ _ _ _ _ _ _ _ _ _ _ _ _ _ _ _ _ _ _ _ _ _ _ _ _ _ _ _ _ _ _ _ _ _ _ _ _ _ _ _ _ _ _ _ _ _ _ _ _ _ _ _ _ _ _ _ _ _ _ _ _ _ _ _ _ _ _ _ _ _ _ _ _ _ _ _ _ _ _ _ _ _ _ _ _ _ _ _ _ _ _ _ _ _ _ _ _ _ _ _ _ _ _ _ _ _ _ _ _ _ _ _ _ _ _ _ _ _ _ _ _ _ _ _ _ _ _ _ _ _ _ _ _ _ _ _ _ _ _ _ _ _ _ _ _ _ _ _ _ _ _ _ _ _ _ _ _ _ _ _ _ _ _ _ _ _ _ _ _ _ _ _ _ _ _ _ _ _ _ _ _ _ _ _ _ _ _ _ _ _ _ _ _ _ _ _ _ _ _ _ _ _ _ _ _ _ _ _ _ _ _ _ _ _ _ _ _ _ _ _ _ _ _ _ _ _ _ _ _ _ _ _ _ _ _ _ _ _ _ _ _ _ _ _ _ _ _ _ _ _ _ _ _ _ _ _ _ _ _ _ _ _ _ _ _ _ _ _ _ _ _ _ _ _ _ _ _ _ _ _ _ _ _ _ _ _ _ _ _ _ _ _ _ _ _ _ _ _ _ _ _ _ _ _ _ _ _ _ _ _ _ _ _ _ _ _ _ _ _ _ _ _ _ _ _ _ _ _ _ _ _ _ _ _ _ _ _ _ _ _ _ _ _ _ _ _ _ _ _ _ _ _ _ _ _ _ _ _ _ _ _ _ hbel6 (hBy.adv hb6) (hBs.adv hb6) (hBn.adv hb6) hgs hgn hne HFI.out (hBr.adv hb6) (hBp.adv hb6) (hBb.adv hb5) HIR.out HIP.out HIY.out (HHR.out.adv hbel6) (HHP.out.adv hbel6) (HHY.out.adv hbel6) (HHK.out.adv hbel6) hS8 hml HPER.out (by rw [HWS.out]; exact HOE.out) HOK.out
end Go.Proofs.YtjncpgbhokjbfaaGreat
namespace Go.Proofs.YtjncpgbhokjbfaaGreat
open Go.RowKit
theorem Blk.rangeAt {w:World} {g:Nat} {t:TypeId} {cs:Array Value} (h:Blk w g t cs) : w.rangeAt g 0 cs.toList:=fun j v hv=>by
 rw [Nat.zero_add,h.cell]; simpa using hv
theorem Blk.there {w:World} {g:Nat} {t:TypeId} {cs:Array Value} (h:Blk w g t cs) : w.there g 0 cs.size:=fun j hj=>by
 rw [Nat.zero_add]
 exact ⟨by rw [h.cell,Array.getElem?_eq_getElem hj]; rfl,h.frozen j⟩
theorem setCells_grown (g:Nat) : ∀ (vs:List Value) (o:Nat) (w:World),w.grownBy (w.setCells g o vs) (some g)
 | [],_,w=>only_refl _ _
 | v :: r,o,w=>by
  rw [World.setCells]
  exact only_trans (only_setCell (p:=⟨g,o,none⟩) (only_refl _ _) (.inl rfl) v) (setCells_grown g r (o+1) _)
theorem setCells_blk {g:Nat} {t:TypeId} : ∀ (vs:List Value) (o:Nat) {w:World} {cs:Array Value},Blk w g t cs→∃ cs' : Array Value,cs'.size = cs.size∧Blk (w.setCells g o vs) g t cs'
 | [],_,_,cs,h=>⟨cs,rfl,h⟩
 | v :: r,o,_,cs,h=>by
  obtain ⟨cs',h1,h2⟩:=setCells_blk r (o+1) (h.set_ o v)
  exact ⟨cs',by simpa using h1,by rw [World.setCells]; exact h2⟩
theorem Blk.setAll {w:World} {g:Nat} {t:TypeId} {cs vs : Array Value} (h:Blk w g t cs) (hs:vs.size = cs.size) : Blk (w.setCells g 0 vs.toList) g t vs:=by
 obtain ⟨cs',h1,h2⟩:=setCells_blk vs.toList 0 h
 have h3:=World.rangeAt_setCells_same w g 0 vs.toList (by have:=h.there; rw [← hs] at this; simpa using this)
 have e:cs' = vs:=by
  apply Array.ext_getElem?
  intro i
  rcases Nat.lt_or_ge i vs.size with hi | hi
  ·
   have h4:=h3 i vs[i] (by simp [hi])
   rw [Nat.zero_add,h2.cell] at h4
   rw [h4,Array.getElem?_eq_getElem hi]
  ·
   rw [Array.getElem?_eq_none hi,Array.getElem?_eq_none (by omega)]
 rw [e] at h2
 exact h2
section
variable {P:Program}
theorem wpList_store_blk {ops:Array Oper} {rest:List Oper} {op:Oper} {a:Act} {w:World} {Q:Exit→Act→World→Prop} (hgd:op.guard = none) (ty:TypeId) (x y : Operand) (ho:op.op = .store ty x y) (hdst:op.dst = none)
  (g:Nat) {t:TypeId} {cs vs:Array Value} (hx:a.eval x = .pointer (some ⟨g,0,none⟩)) (hy:a.eval y = .agg vs) (hB:Blk w g t cs) (hs:vs.size = cs.size)
  (hi:(P.info? ty).map (·.size) = some vs.size) (h1:vs.toList.all (·.oneCell') = true)
  (h:∀ w',Blk w' g t vs→w.grownBy w' (some g)→wpList P ops Q rest a w') : wpList P ops Q (op :: rest) a w :=
 wpList_store_mid hgd ty x y ho g 0 vs hx hy (by have:=hB.there; rwa [← hs] at this) hi (by simpa using h1) (by rw [hdst]; exact h _ (hB.setAll hs) (setCells_grown _ _ _ _))
theorem setCells_off {g:Nat} {t:TypeId} : ∀ (vs:List Value) (o:Nat) {w:World} {cs:Array Value},Blk w g t cs→o+vs.length≤cs.size→Blk (w.setCells g o vs) g t (cs.toList.take o++vs++cs.toList.drop (o+vs.length)).toArray
 | [],o,w,cs,h,_=>by
  have:(cs.toList.take o++[]++cs.toList.drop (o+([] : List Value).length)).toArray = cs:=by simp
  rw [this]; exact h
 | v :: r,o,w,cs,h,hs=>by
  have hs':o < cs.size:=by simp at hs; omega
  have h1:=setCells_off r (o+1) (h.set_ o v) (by simp at hs ⊢; omega)
  rw [World.setCells]
  have e:(cs.setIfInBounds o v).toList.take (o+1)++r++(cs.setIfInBounds o v).toList.drop (o+1+r.length) = cs.toList.take o++(v :: r)++cs.toList.drop (o+(v :: r).length):=by
   rw [Array.toList_setIfInBounds]
   have hl:o < (cs.toList.set o v).length:=by simpa using hs'
   rw [List.take_succ_eq_append_getElem hl,List.getElem_set_self,List.take_set_of_le (Nat.le_refl _),List.drop_set_of_lt (by omega),List.length_cons]
   simp [Nat.add_assoc,Nat.add_comm 1]
  rw [e] at h1
  exact h1
theorem wpList_store_off {ops:Array Oper} {rest:List Oper} {op:Oper} {a:Act} {w:World} {Q:Exit→Act→World→Prop} (hgd:op.guard = none) (ty:TypeId) (x y : Operand) (ho:op.op = .store ty x y) (hdst:op.dst = none)
  (g o:Nat) {t:TypeId} {cs vs:Array Value} (cs':Array Value) (hx:a.eval x = .pointer (some ⟨g,o,none⟩)) (hy:a.eval y = .agg vs) (hB:Blk w g t cs) (hs:o+vs.size≤cs.size)
  (hi:(P.info? ty).map (·.size) = some vs.size) (h1:vs.toList.all (·.oneCell') = true) (hcs:(cs.toList.take o++vs.toList++cs.toList.drop (o+vs.toList.length)).toArray = cs')
  (h:∀ w',Blk w' g t cs'→w.grownBy w' (some g)→wpList P ops Q rest a w') : wpList P ops Q (op :: rest) a w:=by
 subst hcs
 exact wpList_store_mid hgd ty x y ho g o vs hx hy (fun j hj=>⟨by rw [hB.cell,Array.getElem?_eq_getElem (by omega)]; rfl,hB.frozen _⟩) hi (by simpa using h1) (by rw [hdst]; exact h _ (setCells_off vs.toList o hB (by simpa using hs)) (setCells_grown _ _ _ _))
theorem wpList_load_blk {ops:Array Oper} {rest:List Oper} {op:Oper} {a:Act} {w:World} {Q:Exit→Act→World→Prop} (hgd:op.guard = none) (ty:TypeId) (x:Operand) (ho:op.op = .load ty x)
  (g:Nat) {t:TypeId} {cs:Array Value} {d:TypeDesc} (hx:a.eval x = .pointer (some ⟨g,0,none⟩)) (hB:Blk w g t cs)
  (hu:P.underlying ty = some d) (hd:d.isRow = true) (hi:(P.info? ty).map (·.size) = some cs.size)
  (h:wpList P ops Q rest (a.put op.dst (.agg cs)) w) : wpList P ops Q (op :: rest) a w :=
 wpList_load_mid hgd ty x ho g 0 hx cs.toList d hB.rangeAt hu hd (by simpa using hi) (by simpa using h)
theorem results_blk {fn:Func} {tmps:Array Value} {w:World} {s:Tmp} {ty t : TypeId} {g:Nat} {cs:Array Value} {d:TypeDesc} (hr:fn.results = #[.cell s ty]) (hs:tmps.getD s undef = .pointer (some ⟨g,0,none⟩)) (hB:Blk w g t cs)
  (hu:P.underlying ty = some d) (hd:d.isRow = true) (hi:(P.info? ty).map (·.size) = some cs.size) : (results fn tmps).run P w = .ok (.agg cs) w:=by
 have h:=run_loadVar_mid w g 0 ty cs.toList d hB.rangeAt hu hd (by simpa using hi)
 have hs':tmps[s]?.getD undef = .pointer (some ⟨g,0,none⟩):=by simpa using hs
 rw [Array.toArray_toList] at h
 simp [results,hr,hs',asAddr,h]
end
end Go.Proofs.YtjncpgbhokjbfaaGreat
