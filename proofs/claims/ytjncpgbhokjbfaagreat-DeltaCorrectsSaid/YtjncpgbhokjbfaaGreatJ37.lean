/- Joined texts: R31e CmpP. Conditions: as stated. -/
import Derived.Test.YtjncpgbhokjbfaaGreatJ34
import Derived.Test.YtjncpgbhokjbfaaGreatJ35
import Derived.Test.YtjncpgbhokjbfaaGreatJ36
namespace Go.Proofs.YtjncpgbhokjbfaaGreat
open Go.RowKit
set_option maxRecDepth 100000 in
set_option maxHeartbeats 1000000 in
theorem lower31_no (s:ShT) (net deps : Int) (w:World) (h:ShOk s) (n0:0≤net) (n1 : ¬ net≤1000000000) (d0:0≤deps) (d1:deps≤20) : Calls Tryz.prog 109 #[aggSh s,.int .i64 net,.int .i64 deps] w fun e w'=>e = .returned (.tuple #[.int .i64 0,.int .i64 2])∧Below w.heap.size w w':=by
 have hcon:=fun w=>check31_any s net deps w h n0 d0 d1
 rw [if_neg n1] at hcon
 have HC:=Lib.hid hcon
 clear hcon h
 have hB1:=Blk.new w 71 #[.int .i64 s.fixed,.int .i64 s.dependent,.int .i64 s.lower,.int .i64 s.share,.int .i64 s.top]
 have hbel:=below_new w (.cells #[.int .i64 s.fixed,.int .i64 s.dependent,.int .i64 s.lower,.int .i64 s.share,.int .i64 s.top] 71)
 unfold aggSh at HC ⊢
 go_enter Tryz.func109,Tryz.ntmps109
 go_upto_region 1 with fail
 generalize w.alloc (Obj.cells _ _) = W at hB1 hbel ⊢
 have z0:=hB1.cell 0
 have z1:=hB1.cell 1
 have z2:=hB1.cell 2
 have z3:=hB1.cell 3
 have z4:=hB1.cell 4
 simp only [nqg,nqh,nqi] at z0 z1 z2 z3 z4
 go_wp2_with fail
 refine Calls.mono (HC.out _) ?_
 rintro e w1 ⟨rfl,hb1⟩
 have hbel1:=bel_adv hbel hb1
 clear hB1 hb1 z0 z1 z2 z3 z4
 go_wp2
 go_ret2
 exact ⟨rfl,hbel1⟩
theorem SrvOk.at_ {l:List OrdT} {left left0 : Int} {R:List Elem × Int} (h:SrvOk l left [] 0 R) (h0:0≤left0) : SrvAt l (sumE R.1) left0 R.1 left0 0 :=
 ⟨h.pos,h.code,h.sorted,by omega,by omega,by omega,h0⟩
theorem SrvAt.first {l:List OrdT} {left0:Int} (h0:0≤left0) : SrvAt l (sumE []) left0 [] left0 0 :=
 ⟨by simp,by simp,List.Pairwise.nil,by simp [sumE],by omega,by omega,h0⟩
set_option maxRecDepth 100000 in
set_option maxHeartbeats 2000000 in
theorem attach31_no (s:ShT) (net deps : Int) (A:Option Addr) (cap:Nat) (l:List OrdT) (w:World) (h:SliceOf encOd 5 w w.heap.size A l) (hs:ShOk s) (hl:OrdsOk l) (n0:0≤net) (n1 : ¬ net≤1000000000) (d0:0≤deps) (d1:deps≤20) :
  Calls Tryz.prog 59 #[aggSh s,.int .i64 net,.int .i64 deps,.slice A l.length cap] w fun e w'=>e = .returned (.tuple #[.slice none 0 0,.int .i64 2])∧Below w.heap.size w w':=by
 have HSH:=Lib.hid (fun w=>shield31_yes s w hs)
 have HOR:Hid (∀ W,Below w.heap.size w W→Calls Tryz.prog 108 #[.slice A l.length cap] W fun e w'=>e = .returned (.bool true)∧Below W.heap.size W w'):=fun W hb=>orders31_yes A cap l W (h.adv hb) hl
 have HLO:=Lib.hid (fun w=>lower31_no s net deps w hs n0 n1 d0 d1)
 clear h hs hl
 have hB1:=Blk.new w 71 #[.int .i64 s.fixed,.int .i64 s.dependent,.int .i64 s.lower,.int .i64 s.share,.int .i64 s.top]
 have hbel:=below_new w (.cells #[.int .i64 s.fixed,.int .i64 s.dependent,.int .i64 s.lower,.int .i64 s.share,.int .i64 s.top] 71)
 unfold aggSh at HSH HLO ⊢
 go_enter Tryz.func59,Tryz.ntmps59
 go_upto_region 1 with fail
 generalize w.alloc (Obj.cells _ _) = W at hB1 hbel ⊢
 have z0:=hB1.cell 0
 have z1:=hB1.cell 1
 have z2:=hB1.cell 2
 have z3:=hB1.cell 3
 have z4:=hB1.cell 4
 simp only [nqg,nqh,nqi] at z0 z1 z2 z3 z4
 go_wp2_with fail
 refine Calls.mono (HSH.out _) ?_
 rintro e w1 ⟨rfl,hb1⟩
 have hB2:=hB1.adv hb1
 have hbel1:=bel_adv hbel hb1
 clear hB1 hb1 z0 z1 z2 z3 z4
 go_wp2_with fail
 refine Calls.mono (HOR.out _ hbel1) ?_
 rintro e w2 ⟨rfl,hb2⟩
 have hB3:=hB2.adv hb2
 have hbel2:=bel_adv hbel1 hb2
 clear hB2 hb2
 have z0:=hB3.cell 0
 have z1:=hB3.cell 1
 have z2:=hB3.cell 2
 have z3:=hB3.cell 3
 have z4:=hB3.cell 4
 simp only [nqg,nqh,nqi] at z0 z1 z2 z3 z4
 go_wp2_with fail
 refine Calls.mono (HLO.out _) ?_
 rintro e w3 ⟨rfl,hb3⟩
 have hbel3:=bel_adv hbel2 hb3
 clear hB3 hb3 z0 z1 z2 z3 z4
 go_wp2
 go_ret2
 exact ⟨rfl,hbel3⟩
set_option maxRecDepth 100000 in
set_option maxHeartbeats 2000000 in
theorem attach31_ok (s:ShT) (net deps : Int) (A:Option Addr) (cap:Nat) (l:List OrdT) (w:World) (h:SliceOf encOd 5 w w.heap.size A l) (hs:ShOk s) (hl:OrdsOk l) (n0:0≤net) (n1:net≤1000000000) (d0:0≤deps) (d1:deps≤20) :
  Calls Tryz.prog 59 #[aggSh s,.int .i64 net,.int .i64 deps,.slice A l.length cap] w fun e w'=>∃ v,e = .returned (.tuple #[v,.int .i64 0])∧SlE w' v (attachN s net deps l)∧Below w.heap.size w w':=by
 have HSH:=Lib.hid (fun w=>shield31_yes s w hs)
 have HOR:Hid (∀ W,Below w.heap.size w W→Calls Tryz.prog 108 #[.slice A l.length cap] W fun e w'=>e = .returned (.bool true)∧Below W.heap.size W w'):=fun W hb=>orders31_yes A cap l W (h.adv hb) hl
 have HLO:=Lib.hid (fun w=>lower31_ok s net deps w hs n0 n1 d0 d1)
 have HPR:=Lib.hid (fun w=>protected31_ok s net deps w hs n0 n1 d0 d1)
 obtain ⟨_,⟨r0,r1⟩,⟨w0,w1'⟩,_⟩:=prot_bd hs n0 n1 d0 d1
 have HI:=(attach_facts hs hl n0 n1 d0 d1).2
 have HN:Hid (attachN s net deps l = (serveN (serveN [] l true (net - lowN s net deps)).1 l false (max (net - protN s net deps - (serveN [] l true (net - lowN s net deps)).2) 0)).1):=rfl
 have HL:=Lib.hid hl
 clear hs hl
 have hB1:=Blk.new w 71 #[.int .i64 s.fixed,.int .i64 s.dependent,.int .i64 s.lower,.int .i64 s.share,.int .i64 s.top]
 have hbel:=below_new w (.cells #[.int .i64 s.fixed,.int .i64 s.dependent,.int .i64 s.lower,.int .i64 s.share,.int .i64 s.top] 71)
 unfold aggSh at HSH HLO HPR ⊢
 generalize attachN s net deps l = AT at *
 generalize lowN s net deps = lo at *
 generalize protN s net deps = pr at *
 have HS1:Hid (∀ W,Below w.heap.size w W→Calls Tryz.prog 111 #[.slice none 0 0,.slice A l.length cap,.bool true,.int .i64 (net - lo)] W fun e w'=>∃ v,e = .returned (.tuple #[v,.int .i64 (serveN [] l true (net - lo)).2])∧SlE w' v (serveN [] l true (net - lo)).1∧Below W.heap.size W w'):=fun W hb =>
  serve31_ok none A 0 cap [] l true (net - lo) W SliceOf.nil_ (by simp) (by unfold maxLen; omega) (h.adv hb) HL.out (SrvAt.first (by omega)) (by simp [sumE]) (by omega)
 generalize serveN [] l true (net - lo) = R at *
 obtain ⟨Ro,Rt⟩:=R
 have i1:=HI.sum
 have i2:=HI.lo
 have i3:=HI.hi
 simp only [sumE] at i1 i2 i3 HN HS1
 have t0:0≤Rt:=by omega
 have t1:Rt≤1000000000:=by omega
 have hso:sumE Ro≤1000000000:=by omega
 have HAT:=Lib.hid HI
 clear HI i1 i2 i3
 have hmx:∃ x,x = max (net - pr - Rt) 0∧(0≤net - pr - Rt∧x = net - pr - Rt ∨ net - pr - Rt < 0∧x = 0):=⟨_,rfl,by omega⟩
 obtain ⟨x,hx,hcs⟩:=hmx
 rw [← hx] at HN
 have x0:0≤x:=by omega
 have x1:x≤1000000000:=by omega
 clear hx
 have HS2:Hid (∀ W A5 c5,Below w.heap.size w W→SliceOf encE 2 W W.heap.size A5 Ro→Ro.length≤c5→c5≤maxLen→Calls Tryz.prog 111 #[.slice A5 Ro.length c5,.slice A l.length cap,.bool false,.int .i64 x] W fun e w'=>∃ v,e = .returned (.tuple #[v,.int .i64 (serveN Ro l false x).2])∧SlE w' v (serveN Ro l false x).1∧Below W.heap.size W w'):=fun W A5 c5 hb h5 h6 h7 =>
  serve31_ok A5 A c5 cap Ro l false x W h5 h6 h7 (h.adv hb) HL.out (HAT.out.at_ (R:=(Ro,Rt)) x0) hso x1
 clear h HL HAT
 rcases hcs with ⟨k1,rfl⟩ | ⟨k1,rfl⟩
 all_goals
  go_enter Tryz.func59,Tryz.ntmps59
  go_upto_region 1 with fail
  generalize w.alloc (Obj.cells _ _) = W at hB1 hbel ⊢
  have z0:=hB1.cell 0
  have z1:=hB1.cell 1
  have z2:=hB1.cell 2
  have z3:=hB1.cell 3
  have z4:=hB1.cell 4
  simp only [nqg,nqh,nqi] at z0 z1 z2 z3 z4
  go_wp2_with fail
  refine Calls.mono (HSH.out _) ?_
  rintro e w1 ⟨rfl,hb1⟩
  have hB2:=hB1.adv hb1
  have hbel1:=bel_adv hbel hb1
  clear hB1 hb1 z0 z1 z2 z3 z4
  go_wp2_with fail
  refine Calls.mono (HOR.out _ hbel1) ?_
  rintro e w2 ⟨rfl,hb2⟩
  have hB3:=hB2.adv hb2
  have hbel2:=bel_adv hbel1 hb2
  clear hB2 hb2
  have z0:=hB3.cell 0
  have z1:=hB3.cell 1
  have z2:=hB3.cell 2
  have z3:=hB3.cell 3
  have z4:=hB3.cell 4
  simp only [nqg,nqh,nqi] at z0 z1 z2 z3 z4
  go_wp2_with fail
  refine Calls.mono (HLO.out _) ?_
  rintro e w3 ⟨rfl,hb3⟩
  have hB4:=hB3.adv hb3
  have hbel3:=bel_adv hbel2 hb3
  clear hB3 hb3 z0 z1 z2 z3 z4
  have z0:=hB4.cell 0
  have z1:=hB4.cell 1
  have z2:=hB4.cell 2
  have z3:=hB4.cell 3
  have z4:=hB4.cell 4
  simp only [nqg,nqh,nqi] at z0 z1 z2 z3 z4
  go_wp2_with fail
  refine Calls.mono (HPR.out _) ?_
  rintro e w4 ⟨rfl,hb4⟩
  have hbel4:=bel_adv hbel3 hb4
  clear hB4 hb4 z0 z1 z2 z3 z4
  go_wp2_with fail
  refine Calls.mono (HS1.out _ hbel4) ?_
  rintro e w5 ⟨v5,rfl,⟨A5,c5,rfl,h5,h6,h7⟩,hb5⟩
  have hbel5:=bel_adv hbel4 hb5
  go_wp2_with fail
  refine Calls.mono (HS2.out _ A5 c5 hbel5 h5 h6 h7) ?_
  rintro e w6 ⟨v6,rfl,hsl6,hb6⟩
  go_wp2
  go_ret2
  exact ⟨v6,rfl,by rw [HN.out]; exact hsl6,bel_adv hbel5 hb6⟩
end Go.Proofs.YtjncpgbhokjbfaaGreat
namespace Go.Proofs.YtjncpgbhokjbfaaGreat
open Go.RowKit
def mkI (r:RulesM) (p:PersonM) (y:YearM) (kept:List Elem) (first:Bool) (e:List Elem) : NetIn:=⟨r.t,p.t,y.t,kept,first,e⟩
def SlipPost (I:NetIn) (w:World) (e:Ending) (w' : World) : Prop :=
 (I.err = 0∧∃ A c Ai ci At ct,e = .returned (.tuple #[.agg #[.int .i64 I.b.g,.int .i64 I.b.c,.int .i64 I.b.t,.int .i64 I.b.i,.int .i64 I.b.a,.int .i64 I.legal,.slice A I.lines.length c],.agg #[.int .i64 I.next.periods,.int .i64 I.next.income,.int .i64 I.next.withheld,.slice Ai I.next.insured.length ci,.slice At I.next.taken.length ct],.int .i64 0]) ∧
  SliceOf encL 3 w' w'.heap.size A I.lines∧SliceOf encI 1 w' w'.heap.size Ai I.next.insured∧SliceOf encE 2 w' w'.heap.size At I.next.taken∧Below w.heap.size w w') ∨
 (I.err ≠ 0∧e = .returned (.tuple #[.agg #[.int .i64 0,.int .i64 0,.int .i64 0,.int .i64 0,.int .i64 0,.int .i64 0,.slice none 0 0],.agg #[.int .i64 0,.int .i64 0,.int .i64 0,.slice none 0 0,.slice none 0 0],.int .i64 I.err])∧Below w.heap.size w w')
theorem SlipPost.fail {I:NetIn} {w w' : World} {n:Int} (h:I.err = n) (hn:n ≠ 0) (hb:Below w.heap.size w w') : SlipPost I w (.returned (.tuple #[.agg #[.int .i64 0,.int .i64 0,.int .i64 0,.int .i64 0,.int .i64 0,.int .i64 0,.slice none 0 0],.agg #[.int .i64 0,.int .i64 0,.int .i64 0,.slice none 0 0,.slice none 0 0],.int .i64 n])) w':=.inr ⟨by rw [h]; exact hn,by rw [h],hb⟩
def zeroed (W:World) (gs gn : Nat) : World:=((((((((((((W.setCell ⟨gs,0,none⟩ (.int .i64 0)).setCell ⟨gs,1,none⟩ (.int .i64 0)).setCell ⟨gs,2,none⟩ (.int .i64 0)).setCell ⟨gs,3,none⟩ (.int .i64 0)).setCell ⟨gs,4,none⟩ (.int .i64 0)).setCell ⟨gs,5,none⟩ (.int .i64 0)).setCell ⟨gs,6,none⟩ (.slice none 0 0)).setCell ⟨gn,0,none⟩ (.int .i64 0)).setCell ⟨gn,1,none⟩ (.int .i64 0)).setCell ⟨gn,2,none⟩ (.int .i64 0)).setCell ⟨gn,3,none⟩ (.slice none 0 0)).setCell ⟨gn,4,none⟩ (.slice none 0 0))
theorem zeroed_facts {W:World} {gs gn : Nat} (hs:Blk W gs 41 #[.int .i64 0,.int .i64 0,.int .i64 0,.int .i64 0,.int .i64 0,.int .i64 0,.slice none 0 0]) (hn:Blk W gn 81 #[.int .i64 0,.int .i64 0,.int .i64 0,.slice none 0 0,.slice none 0 0]) (hne:gs ≠ gn) : Blk (zeroed W gs gn) gs 41 #[.int .i64 0,.int .i64 0,.int .i64 0,.int .i64 0,.int .i64 0,.int .i64 0,.slice none 0 0]∧Blk (zeroed W gs gn) gn 81 #[.int .i64 0,.int .i64 0,.int .i64 0,.slice none 0 0,.slice none 0 0]:=by
 have h1:=hs.fill [.int .i64 0,.int .i64 0,.int .i64 0,.int .i64 0,.int .i64 0,.int .i64 0,.slice none 0 0] rfl
 have h2:=hn.farAll (g':=gs) (fun e=>hne e.symm) [.int .i64 0,.int .i64 0,.int .i64 0,.int .i64 0,.int .i64 0,.int .i64 0,.slice none 0 0] 0
 have h3:=h1.farAll (g':=gn) hne [.int .i64 0,.int .i64 0,.int .i64 0,.slice none 0 0,.slice none 0 0] 0
 have h4:=h2.fill [.int .i64 0,.int .i64 0,.int .i64 0,.slice none 0 0,.slice none 0 0] rfl
 simp only [putAll,Nat.zero_add,Nat.reduceAdd] at h3 h4
 exact ⟨h3,h4⟩
theorem zeroed_below {B:Nat} {a:World} {gs gn : Nat} {W0:World} (h:Below B a W0) (hs:B≤gs) (hn:B≤gn) (W:World) (e:W = W0:=by rfl) : Below B a (zeroed W gs gn):=by
 subst e
 exact (Below.setCell (p:=⟨gn,4,none⟩) (Below.setCell (p:=⟨gn,3,none⟩) (Below.setCell (p:=⟨gn,2,none⟩) (Below.setCell (p:=⟨gn,1,none⟩) (Below.setCell (p:=⟨gn,0,none⟩) (Below.setCell (p:=⟨gs,6,none⟩) (Below.setCell (p:=⟨gs,5,none⟩) (Below.setCell (p:=⟨gs,4,none⟩) (Below.setCell (p:=⟨gs,3,none⟩) (Below.setCell (p:=⟨gs,2,none⟩) (Below.setCell (p:=⟨gs,1,none⟩) (Below.setCell (p:=⟨gs,0,none⟩) h hs (.int .i64 0)) hs (.int .i64 0)) hs (.int .i64 0)) hs (.int .i64 0)) hs (.int .i64 0)) hs (.int .i64 0)) hs (.slice none 0 0)) hn (.int .i64 0)) hn (.int .i64 0)) hn (.int .i64 0)) hn (.slice none 0 0)) hn (.slice none 0 0))
structure Pre4 (I:NetIn) : Prop where
 per:I.y.periods < I.r.count
 of_:ofErr I.r.wages I.e (sumsP I.e) = 0
 take:takeE I.p.deds I.base (max I.b.c 0) I.y.taken = 0
 over:I.overs = false
 amt:amtB I.tax = true
 net:¬ (I.first = true∧1000000000 < I.net)
theorem Pre4.err {I:NetIn} (h:Pre4 I) : I.err = if addE I.y.taken I.before ≠ 0 then addE I.y.taken I.before else if takeE I.p.deds I.base (max I.left4 0) I.taken1 ≠ 0 then takeE I.p.deds I.base (max I.left4 0) I.taken1 else addE I.taken1 I.after:=by
 have h1:=h.per
 have h5:=h.amt
 unfold NetIn.err
 rw [if_neg (by omega),h.of_,if_neg (by simp),h.take,if_neg (by simp),h.over,if_neg (by simp),h5,if_neg (by simp),if_neg h.net]
theorem Pre4.err1 {I:NetIn} (h:Pre4 I) {n:Int} (e:addE I.y.taken I.before = n) (hn:n ≠ 0) : I.err = n:=by rw [h.err,e,if_pos hn]
theorem Pre4.err2 {I:NetIn} (h:Pre4 I) (e:addE I.y.taken I.before = 0) {n:Int} (e2:takeE I.p.deds I.base (max I.left4 0) I.taken1 = n) (hn:n ≠ 0) : I.err = n:=by rw [h.err,e,if_neg (by simp),e2,if_pos hn]
theorem Pre4.err3 {I:NetIn} (h:Pre4 I) (e:addE I.y.taken I.before = 0) (e2:takeE I.p.deds I.base (max I.left4 0) I.taken1 = 0) {n:Int} (e3:addE I.taken1 I.after = n) : I.err = n:=by rw [h.err,e,if_neg (by simp),e2,if_neg (by simp),e3]
end Go.Proofs.YtjncpgbhokjbfaaGreat
