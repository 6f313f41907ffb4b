/- Joined texts: Prot32 Prot32Proof. Conditions: as stated. -/
import Derived.Test.YtlhkojcmcmkmaaaGreatRows
import Derived.Test.YtlhkojcmcmkmaaaGreatJB32
import Derived.Test.YtlhkojcmcmkmaaaGreatJCaseIn
namespace Go.Proofs.YtlhkojcmcmkmaaaGreat
open Go.RowKit Go.Sort Go.Shelf
theorem low_le_prot {s:ShT} {net deps : Int} (h:ShOk s) (hn:0≤net) (hn1:net≤1000000000) (hd:0≤deps) (hd1:deps≤20) : lowN s net deps≤protN s net deps:=by
 obtain ⟨⟨q0,q1⟩,_,_,d0,d1⟩:=prot_bd h hn hn1 hd hd1
 have l1:=h.l1
 unfold protN lowN
 split
 ·
  omega
 ·
  rename_i hlt
  have e0:0≤min net (max s.top (protP s deps)) - protP s deps:=by omega
  obtain ⟨_,a2,a3,_⟩:=part_ok (unit:=1) (mode:=3) e0 (by omega) h.s0 h.s1 (by omega) (by omega) (by omega) (by omega)
  have e1:protP s deps = s.fixed+s.dependent * deps:=rfl
  omega
theorem attach_keeps {s:ShT} {net deps : Int} {l:List OrdT} (h:ShOk s) (hl:OrdsOk l) (hn:0≤net) (hn1:net≤1000000000) (hd:0≤deps) (hd1:deps≤20) :
  sumE (attachN s net deps l)≤net - lowN s net deps∧((∀ o ∈ l,o.rank ≠ 0)→sumE (attachN s net deps l)≤net - protN s net deps):=by
 obtain ⟨_,⟨p0,p1⟩,⟨w0,w1⟩,_⟩:=prot_bd h hn hn1 hd hd1
 have hlp:=low_le_prot h hn hn1 hd hd1
 have I:=srv_facts (priv:=true) hl.ok (cntK l true (-1,-1)) (-1,-1) (net - lowN s net deps) [] 0 (by omega) (by simp) (by simp) List.Pairwise.nil
 have e1:(serveN [] l true (net - lowN s net deps)) = srv l true (cntK l true (-1,-1)) (-1,-1) (net - lowN s net deps) [] 0:=rfl
 have J:=srv_facts (priv:=false) hl.ok (cntK l false (-1,-1)) (-1,-1) (max (net - protN s net deps - (serveN [] l true (net - lowN s net deps)).2) 0) (serveN [] l true (net - lowN s net deps)).1 0 (by omega) I.pos I.code I.sorted
 have e2:attachN s net deps l = (srv l false (cntK l false (-1,-1)) (-1,-1) (max (net - protN s net deps - (serveN [] l true (net - lowN s net deps)).2) 0) (serveN [] l true (net - lowN s net deps)).1 0).1:=rfl
 have i1:=I.sum
 have i3:=I.hi
 have i2:=I.lo
 have j1:=J.sum
 have j3:=J.hi
 have hnil:sumE ([] : List Elem) = 0:=rfl
 rw [hnil] at i1
 rw [← e2] at j1
 rw [← e1] at i1 i2 i3
 refine ⟨by omega,fun hno=>?_⟩
 have hc:cntK l true (-1,-1) = 0:=by
  unfold cntK
  rw [List.length_eq_zero_iff,List.filter_eq_nil_iff]
  intro o ho
  have:=hno o ho
  simp [elig,this]
 have e3:serveN [] l true (net - lowN s net deps) = ([],0):=by rw [e1,hc]; rfl
 rw [e3] at j1 j3
 dsimp only at j1 j3
 rw [hnil] at j1
 omega
set_option maxRecDepth 100000 in
set_option maxHeartbeats 1000000 in
theorem sum32_any (A:Option Addr) (cap:Nat) (ls:List LineT) (k:Int) (w:World) (h:SliceOf encL 3 w w.heap.size A ls) (hl:ls.length≤256) (hb : ∀ x ∈ ls,-100000000000≤x.amount∧x.amount≤100000000000) :
  Calls Tryz.prog 22 #[.slice A ls.length cap,.int .i64 k] w fun e w'=>e = .returned (.int .i64 (sumK k ls))∧w = w':=by
 have HBD:Hid (∀ (i:Nat),i≤256→-25600000000000≤sumK k (ls.take i)∧sumK k (ls.take i)≤25600000000000):=fun i hi=>by
  have:=sumK_bd k (ls.take i) (fun x hx=>hb x (List.mem_of_mem_take hx))
  have h2:(ls.take i).length≤256:=by simp; omega
  omega
 have HB:=Lib.hid hb
 clear hb
 go_enter Tryz.func22,Tryz.ntmps22
 go_wp2_with fail
 go_loopw [5,6] (fun s i wr=>∃ n:Nat,n≤ls.length∧i = .int .i64 n∧s = .int .i64 (sumK k (ls.take n))∧Hid (wr = w)) (fun _ i _=>ls.length - (intOf i).toNat)
 case atStart=>exact ⟨0,by omega,rfl,by simp [sumK],rfl⟩
 case round =>
  rename World=>wr
  obtain ⟨n,hn,rfl,rfl,hw⟩:=hrel
  have hw':=hw.out
  subst hw'
  by_cases hlt:n < ls.length
  ·
   obtain ⟨b,off,hAe,hbb,hc⟩:=h.at_ hlt
   have c0:=hc 0 _ rfl
   have c1:=hc 1 _ rfl
   have c2:=hc 2 _ rfl
   simp only [Nat.add_zero] at c0
   have hki:(n:Int) < (ls.length:Int):=by omega
   have HT:=Lib.hid (sumK_take k ls n hlt)
   obtain ⟨m0,m1⟩:=HBD.out n (by omega)
   obtain ⟨q0,q1⟩:=HB.out _ (List.getElem_mem hlt)
   clear hc
   rw [hAe]
   generalize ls[n] = x at *
   by_cases hk:x.kind = k
   ·
    have hkb:(x.kind == k) = true:=by simp [hk]
    have HT2:Hid (sumK k (ls.take (n+1)) = sumK k (ls.take n)+x.amount):=by rw [Hid,HT.out,if_pos hk]
    clear HT hk
    generalize sumK k (ls.take n) = q at *
    go_wp2
    go_roundw
    case rel =>
     have hfin:∃ n':Nat,n'≤ls.length∧Value.int .i64 ((n:Int)+1) = .int .i64 n'∧Value.int .i64 (q+x.amount) = .int .i64 (sumK k (ls.take n'))∧Hid (wr = wr):=⟨n+1,by omega,by go_num,by rw [HT2.out],rfl⟩
     first | exact hfin | ((repeat apply Exists.intro); exact ⟨hfin,rfl⟩) | exact ⟨n+1,by omega,by go_num,by rw [HT2.out],by first | exact rfl | trivial⟩
    case measure=>simp [intOf]; omega
   ·
    have hkb:(x.kind == k) = false:=by simp [hk]
    have HT2:Hid (sumK k (ls.take (n+1)) = sumK k (ls.take n)):=by rw [Hid,HT.out,if_neg hk]; omega
    clear HT hk
    go_wp2
    go_roundw
    case rel =>
     have hfin:∃ n':Nat,n'≤ls.length∧Value.int .i64 ((n:Int)+1) = .int .i64 n'∧Value.int .i64 (sumK k (ls.take n)) = .int .i64 (sumK k (ls.take n'))∧Hid (wr = wr):=⟨n+1,by omega,by go_num,by rw [HT2.out],rfl⟩
     first | exact hfin | ((repeat apply Exists.intro); exact ⟨hfin,rfl⟩) | exact ⟨n+1,by omega,by go_num,by rw [HT2.out],by first | exact rfl | trivial⟩
    case measure=>simp [intOf]; omega
  ·
   obtain rfl:n = ls.length:=by omega
   rw [List.take_length]
   go_wp2
   go_ret
   exact ⟨rfl,rfl⟩
theorem sumK_lines (I:NetIn) (k:Int) : sumK k I.lines = (if (1:Int) = k then sumE I.earn else 0)+(if (2:Int) = k then sumE I.bene else 0)+(if (3:Int) = k then sumE I.before else 0)+(if (4:Int) = k then sumE (I.ownTo I.r.schemes) else 0)+(if (5:Int) = k then sumE (I.emplTo I.r.schemes) else 0)+(if (6:Int) = k then I.tax else 0)+(if (7:Int) = k then sumE I.attached else 0)+(if (8:Int) = k then sumE I.after else 0)+(if (9:Int) = k then max I.left5 0 else 0)+(if (10:Int) = k then max (-I.left5) 0 else 0):=by
 simp only [NetIn.lines,sumK_append,sumK_linesK,sumE,Int.add_zero]
set_option maxRecDepth 100000 in
set_option maxHeartbeats 8000000 in
theorem protects32_walk (B:Option Addr) (lcap:Nat) (l:List Int) (w:World) (hI:SliceOf encI 1 w w.heap.size B l) (hIl:l.length≤9223372036854775807) (hIb : ∀ x ∈ l,I64 x) :
  Calls Tryz.prog 6 #[.slice B l.length lcap] w fun e w'=>e = .returned (.bool true)∧RowKit.Below w.heap.size w w':=by
 go_enter Tryz.func6,Tryz.ntmps6
 go_wp2_with fail
 refine (new_any B l lcap _ hI hIl hIb).mono ?_
 rintro e w0 ⟨rfl,hdk,hb0⟩
 clear hIb hI
 go_wp2_with fail
 refine (case_any _ 0 0 (by omega) (by omega) _ (by omega) hdk).mono ?_
 rintro e w1 ⟨rm,pm,ym,Ak,kc,kept,first,E,ec,es,rfl,hcg,_,hRi,hPi,hYi,hKi,hEi,hd1,hg1⟩
 have HCG:=Lib.hid hcg
 have hb1:RowKit.Below w.heap.size w w1:=bel_only hb0 hg1 (fun q e=>by injection e; omega)
 clear hcg hdk hg1 hd1 hb0
 go_upto_region 2 with (refine wpList_store_blk rfl _ _ _ rfl rfl w1.heap.size rfl rfl (Blk.new w1 55 #[.slice none 0 0,.slice none 0 0,.int .i64 0,.slice none 0 0,.int .i64 0,.int .i64 0,.int .i64 0,.int .i64 0,.slice none 0 0,.int .i64 0,.int .i64 0,.int .i64 0,.int .i64 0,.int .i64 0,.int .i64 0,.int .i64 0,.int .i64 0,.slice none 0 0,.slice none 0 0,.slice none 0 0,.int .i64 0,.int .i64 0,.int .i64 0,.slice none 0 0,.slice none 0 0,.slice none 0 0,.bool false,.slice none 0 0]) rfl sizeCase rfl ?_; intro w2 hX2 hg2)
 have hb2:RowKit.Below w1.heap.size w1 w2:=(below_new w1 (.cells #[.slice none 0 0,.slice none 0 0,.int .i64 0,.slice none 0 0,.int .i64 0,.int .i64 0,.int .i64 0,.int .i64 0,.slice none 0 0,.int .i64 0,.int .i64 0,.int .i64 0,.int .i64 0,.int .i64 0,.int .i64 0,.int .i64 0,.int .i64 0,.slice none 0 0,.slice none 0 0,.slice none 0 0,.int .i64 0,.int .i64 0,.int .i64 0,.slice none 0 0,.slice none 0 0,.slice none 0 0,.bool false,.slice none 0 0] 55)).trans (only_below hg2 (by rw [World.size_alloc]; omega) (fun q e=>by injection e; omega))
 have hRi2:=hRi.adv hb2
 have hPi2:=hPi.adv hb2
 have hYi2:=hYi.adv hb2
 have hKi2:=hKi.adv hb2
 have hEi2:=hEi.adv hb2
 have hbw2:=bel_adv hb1 hb2
 clear hRi hPi hYi hKi hEi hb2 hg2 hb1
 generalize w1.heap.size = g at *
 have HPO:=Lib.hid (compute_ok rm pm ym Ak E kc ec kept es true w2 hRi2 hPi2 hYi2 hKi2 hEi2 (by have:=HCG.out.e.2; omega) (HCG.out.in_ true))
 have HOS:=Lib.hid hPi2.os
 have HIN:=Lib.hid (HCG.out.in_ true)
 unfold RulesM.val PersonM.val YearM.val at HPO
 have x0:=hX2.cell 0
 have x1:=hX2.cell 1
 have x2:=hX2.cell 2
 have x3:=hX2.cell 3
 have x4:=hX2.cell 4
 have x5:=hX2.cell 5
 have x6:=hX2.cell 6
 have x7:=hX2.cell 7
 have x8:=hX2.cell 8
 have x9:=hX2.cell 9
 have x10:=hX2.cell 10
 have x11:=hX2.cell 11
 have x12:=hX2.cell 12
 have x13:=hX2.cell 13
 have x14:=hX2.cell 14
 have x15:=hX2.cell 15
 have x16:=hX2.cell 16
 have x17:=hX2.cell 17
 have x18:=hX2.cell 18
 have x19:=hX2.cell 19
 have x20:=hX2.cell 20
 have x21:=hX2.cell 21
 have x22:=hX2.cell 22
 have x23:=hX2.cell 23
 have x24:=hX2.cell 24
 have x25:=hX2.cell 25
 have x26:=hX2.cell 26
 have x27:=hX2.cell 27
 simp only [nqg,nqh,nqi] at x0 x1 x2 x3 x4 x5 x6 x7 x8 x9 x10 x11 x12 x13 x14 x15 x16 x17 x18 x19 x20 x21 x22 x23 x24 x25 x26 x27
 clear hRi2 hPi2 hYi2 hKi2 hEi2
 go_wp2_with fail
 refine HPO.out.mono ?_
 clear HPO x0 x1 x2 x3 x4 x5 x6 x7 x8 x9 x10 x11 x12 x13 x14 x15 x16 x17 x18 x19 x20 x21 x22 x23 x24 x25 x26 x27
 have hsh:(mkI rm pm ym kept true es).r.sh = rm.sh:=rfl
 have hdp:(mkI rm pm ym kept true es).p.deps = pm.deps:=rfl
 have hos:(mkI rm pm ym kept true es).p.orders = pm.os:=rfl
 have hfi:(mkI rm pm ym kept true es).first = true:=rfl
 rintro e w3 (⟨herr,A,c,Ai,ci,At,ct,rfl,hSL,_,_,hb3⟩ | ⟨herr,rfl,hb3⟩)
 ·
  have HIL:=Lib.hid (HIN.out.slBal herr)
  have hX3:=hX2.adv hb3
  have HOS3:=Lib.hid (HOS.out.adv hb3)
  generalize mkI rm pm ym kept true es = I at *
  have P:=HIN.out.parts herr
  have hnt:=(NetIn.err_inv herr).2.2.2.2.2.1
  have hn1:I.net≤1000000000:=by
   rcases Int.lt_or_le 1000000000 I.net with h | h
   ·
    exact absurd ⟨hfi,h⟩ hnt
   ·
    exact h
  have hn0:0≤I.net:=by unfold NetIn.net; omega
  have hsk:ShOk rm.sh:=by rw [← hsh]; exact HIN.out.r.sh
  have hok:OrdsOk pm.os:=by rw [← hos]; exact HIN.out.p.orders
  have hd0:0≤pm.deps:=by rw [← hdp]; exact HIN.out.p.d0
  have hd1:pm.deps≤20:=by rw [← hdp]; exact HIN.out.p.d1
  have hat:I.attached = attachN rm.sh I.net pm.deps pm.os:=by unfold NetIn.attached; rw [if_pos hfi,hsh,hdp,hos]
  obtain ⟨k1,k2⟩:=attach_keeps hsk hok hn0 hn1 hd0 hd1
  rw [← hat] at k1 k2
  have HK2:=Lib.hid k2
  obtain ⟨_,⟨r0,r1⟩,⟨q0,q1⟩,_⟩:=prot_bd hsk hn0 hn1 hd0 hd1
  have HPR:=Lib.hid (fun W=>protectedP31 rm.sh I.net pm.deps W hsk hn0 hn1 hd0 hd1)
  have HLO:=Lib.hid (fun W=>lowerP31 rm.sh I.net pm.deps W hsk hn0 hn1 hd0 hd1)
  have HS3:Hid (sumK 3 I.lines = sumE I.before):=by rw [Hid,sumK_lines]; simp
  have HS7:Hid (sumK 7 I.lines = sumE I.attached):=by rw [Hid,sumK_lines]; simp
  have hl3:I.legal - sumE I.before = I.left3:=by show I.b.c - I.levies - I.tax - sumE I.before = I.b.c - sumE I.before - I.levies - I.tax; omega
  have HL3:=Lib.hid hl3
  have hab:=amts_bd (ofErr_inv (NetIn.err_inv herr).2.1).2.2.2
  have c0 : -1000000000≤I.b.c:=hab.2.1.1
  have c1:I.b.c≤1000000000:=hab.2.1.2
  have a0 : -1000000000≤I.b.a:=hab.2.2.2.2.1
  have a1:I.b.a≤1000000000:=hab.2.2.2.2.2
  have lb : -100000000000≤I.left3∧I.left3≤100000000000:=by
   have h1:=P.bsum; have h2:=P.levies; have h3:=P.tax
   have:I.left3 = I.b.c - sumE I.before - I.levies - I.tax:=rfl
   omega
  have lg : -100000000000≤I.legal∧I.legal≤100000000000:=by
   have h2:=P.levies; have h3:=P.tax
   have:I.legal = I.b.c - I.levies - I.tax:=rfl
   omega
  have sb:0≤sumE I.before∧sumE I.before≤1000000000:=by have h1:=P.bsum; omega
  have sa:=P.asum
  have HNT:Hid (I.net = max (I.left3 - max (I.b.c - I.b.a) 0) 0):=rfl
  have hb4:=bel_alloc (below_new w3 (.cells #[.int .i64 I.b.g,.int .i64 I.b.c,.int .i64 I.b.t,.int .i64 I.b.i,.int .i64 I.b.a,.int .i64 I.legal,.slice A I.lines.length c] 27)) (.cells #[.int .i64 I.next.periods,.int .i64 I.next.income,.int .i64 I.next.withheld,.slice Ai I.next.insured.length ci,.slice At I.next.taken.length ct] 53)
  have hX4:=(Blk.new w3 27 #[.int .i64 I.b.g,.int .i64 I.b.c,.int .i64 I.b.t,.int .i64 I.b.i,.int .i64 I.b.a,.int .i64 I.legal,.slice A I.lines.length c]).alloc (.cells #[.int .i64 I.next.periods,.int .i64 I.next.income,.int .i64 I.next.withheld,.slice Ai I.next.insured.length ci,.slice At I.next.taken.length ct] 53)
  have HSU:=Lib.hid (fun k W hb=>sum32_any A c I.lines k W ((hSL.adv hb4).adv hb) HIL.out.len (fun x hx=>⟨(HIL.out.fm x hx).lo,(HIL.out.fm x hx).hi⟩))
  have hC4:=hX3.adv hb4
  have HOS4:=Lib.hid (HOS3.out.adv hb4)
  have hbw4:=bel_adv (bel_adv hbw2 hb3) hb4
  clear hSL hb3 hbw2 herr hX2 hX3 hnt P hab hat k2 hsh hdp hos hfi HOS HOS3 hl3 hsk
  go_upto_region 3 with fail
  clear hb4
  generalize World.alloc (w3.alloc _) _ = w4 at hX4 hbw4 HSU hC4 HOS4 ⊢
  generalize w3.heap.size = gx at *
  have hlx:=hX4.lt
  have z0:=hX4.cell 0
  have z1:=hX4.cell 1
  have z2:=hX4.cell 2
  have z3:=hX4.cell 3
  have z4:=hX4.cell 4
  have z5:=hX4.cell 5
  have z6:=hX4.cell 6
  simp only [nqg,nqh,nqi] at z0 z1 z2 z3 z4 z5 z6
  have e5:=Bw.cell (w:=w4) (a:=⟨gx,5,none⟩) (by exact hlx) z5
  have e6:=Bw.cell (w:=w4) (a:=⟨gx,6,none⟩) (by exact hlx) z6
  go_upto_region 5 with fail
  refine wp_region_below (by kernel_rfl) (by kernel_rfl) ?_
  have HSU3:Hid (∀ W,RowKit.Below w4.heap.size w4 W→Calls Tryz.prog 22 #[.slice A I.lines.length c,.int .i64 3] W fun e w'=>e = .returned (.int .i64 (sumE I.before))∧RowKit.Below W.heap.size W w'):=fun W hb=>(HSU.out 3 W hb).mono (fun e w' ⟨he,hw⟩=>⟨by rw [he,HS3.out],by rw [← hw]; exact Below.refl _ _⟩)
  repeat (go_big_quiet_step (exact Bw.call _ (HSU3.out _ (Bw.h _))))
  refine wpQuiet_nil ?_
  intro w5 hw'
  obtain ⟨⟨w5,hW5⟩,hw''⟩:=hw'
  subst hw''
  have hX5:=hX4.adv hW5
  have hC5:=hC4.adv hW5
  have hbw5:=bel_adv hbw4 hW5
  rw [HL3.out]
  clear z0 z1 z2 z3 z4 z5 z6 e5 e6 hX4 hC4 hbw4
  have z0:=hX5.cell 0
  have z1:=hX5.cell 1
  have z2:=hX5.cell 2
  have z3:=hX5.cell 3
  have z4:=hX5.cell 4
  have z5:=hX5.cell 5
  have z6:=hX5.cell 6
  simp only [nqg,nqh,nqi] at z0 z1 z2 z3 z4 z5 z6
  go_upto_region 7 with fail
  rw [← HNT.out]
  have HSU7:Hid (∀ W,RowKit.Below w4.heap.size w4 W→Calls Tryz.prog 22 #[.slice A I.lines.length c,.int .i64 7] W fun e w'=>e = .returned (.int .i64 (sumE I.attached))∧W = w'):=fun W hb=>(HSU.out 7 W hb).mono (fun e w' ⟨he,hw⟩=>⟨by rw [he,HS7.out],hw⟩)
  clear z0 z1 z2 z3 z4 z5 HSU HSU3 lb lg sb c0 c1 a0 a1
  go_wp2_with fail
  refine (HSU7.out _ hW5).mono ?_
  rintro e w6 ⟨rfl,rfl⟩
  have hC6:=hC5
  clear z6 hX5 HSU7 hC5
  have x0:=hC6.cell 0
  have x1:=hC6.cell 1
  have x2:=hC6.cell 2
  have x3:=hC6.cell 3
  have x4:=hC6.cell 4
  have x5:=hC6.cell 5
  have x6:=hC6.cell 6
  have x7:=hC6.cell 7
  have x8:=hC6.cell 8
  have x9:=hC6.cell 9
  have x10:=hC6.cell 10
  have x11:=hC6.cell 11
  have x12:=hC6.cell 12
  have x13:=hC6.cell 13
  have x14:=hC6.cell 14
  have x15:=hC6.cell 15
  have x16:=hC6.cell 16
  have x17:=hC6.cell 17
  have x18:=hC6.cell 18
  have x19:=hC6.cell 19
  have x20:=hC6.cell 20
  have x21:=hC6.cell 21
  have x22:=hC6.cell 22
  have x23:=hC6.cell 23
  have x24:=hC6.cell 24
  have x25:=hC6.cell 25
  have x26:=hC6.cell 26
  have x27:=hC6.cell 27
  simp only [nqg,nqh,nqi] at x0 x1 x2 x3 x4 x5 x6 x7 x8 x9 x10 x11 x12 x13 x14 x15 x16 x17 x18 x19 x20 x21 x22 x23 x24 x25 x26 x27
  go_wp2_with fail
  refine (HPR.out _).mono ?_
  rintro e w7 ⟨rfl,hb7⟩
  have hC7:=hC6.adv hb7
  have hbw7:=bel_adv hbw5 hb7
  have HOS7:=Lib.hid ((HOS4.out.adv hW5).adv hb7)
  clear x0 x1 x2 x3 x4 x5 x6 x7 x8 x9 x10 x11 x12 x13 x14 x15 x16 x17 x18 x19 x20 x21 x22 x23 x24 x25 x26 x27 hC6 HPR HOS4 hb7 hW5
  have x0:=hC7.cell 0
  have x1:=hC7.cell 1
  have x2:=hC7.cell 2
  have x3:=hC7.cell 3
  have x4:=hC7.cell 4
  have x5:=hC7.cell 5
  have x6:=hC7.cell 6
  have x7:=hC7.cell 7
  have x8:=hC7.cell 8
  have x9:=hC7.cell 9
  have x10:=hC7.cell 10
  have x11:=hC7.cell 11
  have x12:=hC7.cell 12
  have x13:=hC7.cell 13
  have x14:=hC7.cell 14
  have x15:=hC7.cell 15
  have x16:=hC7.cell 16
  have x17:=hC7.cell 17
  have x18:=hC7.cell 18
  have x19:=hC7.cell 19
  have x20:=hC7.cell 20
  have x21:=hC7.cell 21
  have x22:=hC7.cell 22
  have x23:=hC7.cell 23
  have x24:=hC7.cell 24
  have x25:=hC7.cell 25
  have x26:=hC7.cell 26
  have x27:=hC7.cell 27
  simp only [nqg,nqh,nqi] at x0 x1 x2 x3 x4 x5 x6 x7 x8 x9 x10 x11 x12 x13 x14 x15 x16 x17 x18 x19 x20 x21 x22 x23 x24 x25 x26 x27
  go_wp2_with fail
  refine (HLO.out _).mono ?_
  rintro e w8 ⟨rfl,hb8⟩
  have hC8:=hC7.adv hb8
  have hbw8:=bel_adv hbw7 hb8
  have HOS8:=Lib.hid (HOS7.out.adv hb8)
  clear x0 x1 x2 x3 x4 x5 x6 x7 x8 x9 x10 x11 x12 x13 x14 x15 x16 x17 x18 x19 x20 x21 x22 x23 x24 x25 x26 x27 hC7 HLO HOS7 hb8
  have hnl:¬ I.net - sumE I.attached < lowN rm.sh I.net pm.deps:=by omega
  have hol:=hok.len
  clear hok
  generalize hst:sumE I.attached = st at *
  generalize hnn:I.net = nn at *
  generalize hpp:protN rm.sh nn pm.deps = pp at *
  generalize hlw:lowN rm.sh nn pm.deps = lw at *
  have hnb:decide (nn - st < lw) = false:=by simp; omega
  have x18:w8.cell? ⟨g,18,none⟩ = some (.slice pm.Ao pm.os.length pm.co):=hC8.cell 18
  have hlg:=hC8.lt
  go_wp2_with fail
  go_loopw [14] (fun i wr=>∃ n:Nat,n≤pm.os.length∧i = .int .i64 n∧Hid (wr = w8)∧Hid (∀ j (hj:j < pm.os.length),j < n→pm.os[j].rank ≠ 0)) (fun i _=>pm.os.length - (intOf i).toNat)
  case atStart=>exact ⟨0,by omega,rfl,rfl,fun j hj h=>absurd h (by omega)⟩
  case round =>
   rename World=>wr
   obtain ⟨n,hn,rfl,hw,hall⟩:=hrel
   have hw':=hw.out
   subst hw'
   by_cases hlt:n < pm.os.length
   ·
    obtain ⟨bb,off,hAe,hbb,hc⟩:=HOS8.out.at_ hlt
    have c0:=hc 0 _ rfl
    have c1:=hc 1 _ rfl
    have c2:=hc 2 _ rfl
    have c3:=hc 3 _ rfl
    have c4:=hc 4 _ rfl
    simp only [Nat.add_zero] at c0
    rw [hAe] at x18
    have hki:(n:Int) < (pm.os.length:Int):=by omega
    clear hc
    by_cases hr0:pm.os[n].rank = 0
    ·
     have hrb:(pm.os[n].rank == 0) = true:=by simp [hr0]
     rw [hr0] at c1
     go_wp2_with fail
     refine (awake_any _).mono ?_
     rintro e w9 ⟨rfl,hb9⟩
     have hbw9:=bel_adv hbw8 hb9
     go_wp2
     go_ret
     exact ⟨rfl,hbw9⟩
    ·
     have hrb:(pm.os[n].rank == 0) = false:=by simpa using hr0
     have HALL:Hid (∀ j (hj:j < pm.os.length),j < n+1→pm.os[j].rank ≠ 0):=fun j hj h=>by
      rcases Nat.lt_or_ge j n with h2 | h2
      ·
       exact hall.out j hj h2
      ·
       obtain rfl:j = n:=by omega
       exact hr0
     clear hall hr0
     go_wp2
     go_roundw
     case rel=>exact ⟨n+1,by omega,by go_num,by first | exact rfl | trivial,HALL.out⟩
     case measure=>simp [intOf]; omega
   ·
    obtain rfl:n = pm.os.length:=by omega
    have hge:pp≤nn - st:=by
     have:=HK2.out (fun o ho=>by
      obtain ⟨j,hj,rfl⟩:=List.mem_iff_getElem.1 ho
      exact hall.out j hj hj)
     omega
    clear hall HK2
    go_wp2_with fail
    refine (awake_any _).mono ?_
    rintro e w9 ⟨rfl,hb9⟩
    have hbw9:=bel_adv hbw8 hb9
    go_wp2
    go_ret
    exact ⟨rfl,hbw9⟩
 ·
  generalize (mkI rm pm ym kept true es).err = er at *
  have hner:(er != 0) = true:=by simpa using herr
  have hb4:=bel_alloc (below_new w3 (.cells #[.int .i64 0,.int .i64 0,.int .i64 0,.int .i64 0,.int .i64 0,.int .i64 0,.slice none 0 0] 27)) (.cells #[.int .i64 0,.int .i64 0,.int .i64 0,.slice none 0 0,.slice none 0 0] 53)
  have hbw4:=bel_adv (bel_adv hbw2 hb3) hb4
  clear hX2 hsh hdp hos hfi HIN HOS
  go_upto_region 3 with fail
  clear hb4 hb3 hbw2
  generalize World.alloc (w3.alloc _) _ = w4 at hbw4 ⊢
  go_wp2_with fail
  refine (awake_any _).mono ?_
  rintro e w6 ⟨rfl,hb6⟩
  have hbw6:=bel_adv hbw4 hb6
  go_wp2
  go_ret
  exact ⟨rfl,hbw6⟩
end Go.Proofs.YtlhkojcmcmkmaaaGreat
namespace Go.Proofs.YtlhkojcmcmkmaaaGreat.netProtects
open Go.ChangeShapes Go.WideShapes Go.ChangeAt Go.RowKit
open Go.ChangeMaps (open_string shut_string)
theorem own : ownKnob Tryz.prog.godebug = none:=by kernel_rfl
theorem laidOut : laidOutB Tryz.prog = true:=by kernel_rfl
set_option maxRecDepth 100000 in
theorem lifted (os:Os) (started:os.Started) (H:Type) (enc:TypeId × Value→H) :
  ReturnsInHanded {} Tryz.checked os 6 .any (Rows.netProtectsSpec.pre6 enc Tryz.prog Tryz.f6 Rows.netProtectsRow.domain false) (Rows.netProtectsSpec.post enc Tryz.prog Tryz.f6 false true false false):=by
 refine returnsInHanded_of_change (C:=Tryz.checked) own started (by kernel_rfl) Tryz.func6
  (ChangeSpec.witness6 (enc:=enc) (C:=Tryz.checked) false ⟨#[],#[.slice none 0 0],[]⟩ 8 (by kernel_rfl) (by kernel_rfl) (by kernel_rfl) (by kernel_rfl)) ?_
 intro W base args ds gs before hval0 hW _ _
 have hval:∀ (j:Nat) t v,Tryz.f6.params[j]? = some t→args[j]? = some v→Value.okWide Tryz.prog W .any base t v:=hval0
 have hW':=hW
 obtain ⟨p,q,hA0,hV,rfl,_,_⟩:=hW
 have hA:DataW.TrodAll enc Tryz.prog W 0 (fun _=>true) true Tryz.f6.params.toList args.toList ds p:=hA0
 rw [Tryz.params6] at hA hval
 obtain ⟨v0,vs0,d0,ds0,p0,q0,hargs,rfl,rfl,h0,r0⟩:=trodAll_cons hA
 obtain ⟨rfl,rfl,rfl⟩:=trodAll_nil r0
 obtain rfl:args = #[v0]:=by cases args; simp_all
 obtain ⟨rfl,rfl⟩:=trodVars_none hV
 obtain ⟨a0,len0,cap0,rfl⟩:=okWide_slice Tryz.underlying34 (hval 0 34 v0 rfl rfl)
 have k0:=h0
 have lt0:∀ x ∈ p0,x.block < W.heap.size:=by obtain ⟨m,hm⟩:=k0; exact DataW.trod_lt m _ _ _ hm
 obtain ⟨xs0,rfl,hS0,hX0,hlc0,hcm0⟩:=openI h0
 have hl0:=Nat.le_trans hlc0 hcm0
 clear hA0 hval0
 refine (protects32_walk a0 cap0 xs0 W hS0 hl0 hX0).mono fun e W' ⟨he,bel⟩=>?_
 subst he
 exact ⟨_,rfl,_,_,_,[],_,[],hW',trodAll_mk1 (shut_bool Tryz.underlying4 _),(trodAll_cons_mk (Below.trod laidOut (by kernel_rfl) (of_decide_eq_true (by kernel_rfl)) k0 bel lt0) trodAll_mk0),rfl,bel.frame _,fun h=>by cases h⟩
theorem t4 : (Rows.netProtectsRow.inPlace == Tryz.prog.inPlace 6) = true:=by kernel_rfl
theorem t5 : (Rows.netProtectsRow.unfollowed == Tryz.prog.unfollowed 6) = true:=by kernel_rfl
theorem t6 : (Rows.netProtectsRow.recurses == Tryz.prog.recurses 6) = true:=by kernel_rfl
theorem t7 : (Rows.netProtectsRow.named == Tryz.prog.varsNamed 6) = true:=by kernel_rfl
theorem t8 : (Rows.netProtectsRow.pinned == Rows.netProtectsRow.pinnedBy) = true:=by kernel_rfl
theorem t9 : (Rows.netProtectsRow.lifted == Tryz.prog.liftsFinal) = true:=by kernel_rfl
theorem tc : joinedFacts Tryz.prog 6 Tryz.f6 Rows.netProtectsSpec Rows.netProtectsRow = true:=by
 unfold joinedFacts
 rw [t4,t5,t6,t7,t8,t9]
 kernel_rfl
theorem tf : Tryz.pinned.checked.prog.funcNamed Rows.netProtectsRow.func = some 6:=by kernel_rfl
theorem over : Rows.netProtectsRow.holds Tryz.pinned (OpenSpec.ofChange Rows.netProtectsSpec) :=
 OpenClaim.holds_of_wide 6 Tryz.f6 rfl rfl rfl rfl rfl rfl rfl ⟨rfl,rfl,rfl,rfl,rfl⟩ rfl rfl rfl rfl rfl tf Tryz.func6 tc
  (of_decide_eq_true (by kernel_rfl)) (by unfold Func.isWrapper; first | (rw [if_pos (by decide +kernel)]; kernel_rfl) | (rw [if_neg (by decide +kernel)]; exact ⟨rfl,rfl⟩))
  (fun os started H enc _=>lifted os started H enc)
theorem proved : Rows.NetProtectsSaid:=over
#print axioms proved
end Go.Proofs.YtlhkojcmcmkmaaaGreat.netProtects
