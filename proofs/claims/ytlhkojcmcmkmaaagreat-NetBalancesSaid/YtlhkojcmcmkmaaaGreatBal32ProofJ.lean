/- Joined texts: Bal32 Bal32Proof. Conditions: as stated. -/
import Derived.Test.YtlhkojcmcmkmaaaGreatRows
import Derived.Test.YtlhkojcmcmkmaaaGreatJB32
import Derived.Test.YtlhkojcmcmkmaaaGreatJCaseIn
namespace Go.Proofs.YtlhkojcmcmkmaaaGreat
open Go.RowKit Go.Sort Go.Shelf
set_option maxRecDepth 100000 in
set_option maxHeartbeats 8000000 in
theorem balances32_walk (B:Option Addr) (lcap:Nat) (l:List Int) (w:World) (hI:SliceOf encI 1 w w.heap.size B l) (hIl:l.length≤9223372036854775807) (hIb : ∀ x ∈ l,I64 x) :
  Calls Tryz.prog 5 #[.slice B l.length lcap] w fun e w'=>e = .returned (.bool true)∧RowKit.Below w.heap.size w w':=by
 go_enter Tryz.func5,Tryz.ntmps5
 go_wp2_with fail
 refine (new_any B l lcap _ hI hIl hIb).mono ?_
 rintro e w0 ⟨rfl,hdk,hb0⟩
 clear hIb hI
 go_wp2_with fail
 refine (case_any _ 0 0 (by omega) (by omega) _ (by omega) hdk).mono ?_
 rintro e w1 ⟨rm,pm,ym,Ak,kc,kept,first,E,ec,es,rfl,hcg,_,hRi,hPi,hYi,hKi,hEi,hd1,hg1⟩
 have HCG:=Lib.hid hcg
 have hb1:RowKit.Below w.heap.size w w1:=bel_only hb0 hg1 (fun q e=>by injection e; omega)
 clear hcg hdk hg1 hd1 hb0
 go_upto_region 2 with (refine wpList_store_blk rfl _ _ _ rfl rfl w1.heap.size rfl rfl (Blk.new w1 55 #[.slice none 0 0,.slice none 0 0,.int .i64 0,.slice none 0 0,.int .i64 0,.int .i64 0,.int .i64 0,.int .i64 0,.slice none 0 0,.int .i64 0,.int .i64 0,.int .i64 0,.int .i64 0,.int .i64 0,.int .i64 0,.int .i64 0,.int .i64 0,.slice none 0 0,.slice none 0 0,.slice none 0 0,.int .i64 0,.int .i64 0,.int .i64 0,.slice none 0 0,.slice none 0 0,.slice none 0 0,.bool false,.slice none 0 0]) rfl sizeCase rfl ?_; intro w2 hX2 hg2)
 have hb2:RowKit.Below w1.heap.size w1 w2:=(below_new w1 (.cells #[.slice none 0 0,.slice none 0 0,.int .i64 0,.slice none 0 0,.int .i64 0,.int .i64 0,.int .i64 0,.int .i64 0,.slice none 0 0,.int .i64 0,.int .i64 0,.int .i64 0,.int .i64 0,.int .i64 0,.int .i64 0,.int .i64 0,.int .i64 0,.slice none 0 0,.slice none 0 0,.slice none 0 0,.int .i64 0,.int .i64 0,.int .i64 0,.slice none 0 0,.slice none 0 0,.slice none 0 0,.bool false,.slice none 0 0] 55)).trans (only_below hg2 (by rw [World.size_alloc]; omega) (fun q e=>by injection e; omega))
 have hRi2:=hRi.adv hb2
 have hPi2:=hPi.adv hb2
 have hYi2:=hYi.adv hb2
 have hKi2:=hKi.adv hb2
 have hEi2:=hEi.adv hb2
 have hbw2:=bel_adv hb1 hb2
 clear hRi hPi hYi hKi hEi hb2 hg2 hb1
 generalize w1.heap.size = g at *
 have HPO:=Lib.hid (compute_ok rm pm ym Ak E kc ec kept es first w2 hRi2 hPi2 hYi2 hKi2 hEi2 (by have:=HCG.out.e.2; omega) (HCG.out.in_ first))
 unfold RulesM.val PersonM.val YearM.val at HPO
 have x0:=hX2.cell 0
 have x1:=hX2.cell 1
 have x2:=hX2.cell 2
 have x3:=hX2.cell 3
 have x4:=hX2.cell 4
 have x5:=hX2.cell 5
 have x6:=hX2.cell 6
 have x7:=hX2.cell 7
 have x8:=hX2.cell 8
 have x9:=hX2.cell 9
 have x10:=hX2.cell 10
 have x11:=hX2.cell 11
 have x12:=hX2.cell 12
 have x13:=hX2.cell 13
 have x14:=hX2.cell 14
 have x15:=hX2.cell 15
 have x16:=hX2.cell 16
 have x17:=hX2.cell 17
 have x18:=hX2.cell 18
 have x19:=hX2.cell 19
 have x20:=hX2.cell 20
 have x21:=hX2.cell 21
 have x22:=hX2.cell 22
 have x23:=hX2.cell 23
 have x24:=hX2.cell 24
 have x25:=hX2.cell 25
 have x26:=hX2.cell 26
 have x27:=hX2.cell 27
 simp only [nqg,nqh,nqi] at x0 x1 x2 x3 x4 x5 x6 x7 x8 x9 x10 x11 x12 x13 x14 x15 x16 x17 x18 x19 x20 x21 x22 x23 x24 x25 x26 x27
 clear hX2 hRi2 hPi2 hYi2 hKi2 hEi2
 go_wp2_with fail
 refine HPO.out.mono ?_
 clear HPO x0 x1 x2 x3 x4 x5 x6 x7 x8 x9 x10 x11 x12 x13 x14 x15 x16 x17 x18 x19 x20 x21 x22 x23 x24 x25 x26 x27
 rintro e w3 (⟨herr,A,c,Ai,ci,At,ct,rfl,hSL,_,_,hb3⟩ | ⟨herr,rfl,hb3⟩)
 ·
  have HIL:=Lib.hid ((HCG.out.in_ first).slBal herr)
  generalize mkI rm pm ym kept first es = I at *
  have hb4:=bel_alloc (below_new w3 (.cells #[.int .i64 I.b.g,.int .i64 I.b.c,.int .i64 I.b.t,.int .i64 I.b.i,.int .i64 I.b.a,.int .i64 I.legal,.slice A I.lines.length c] 27)) (.cells #[.int .i64 I.next.periods,.int .i64 I.next.income,.int .i64 I.next.withheld,.slice Ai I.next.insured.length ci,.slice At I.next.taken.length ct] 53)
  have hX4:=(Blk.new w3 27 #[.int .i64 I.b.g,.int .i64 I.b.c,.int .i64 I.b.t,.int .i64 I.b.i,.int .i64 I.b.a,.int .i64 I.legal,.slice A I.lines.length c]).alloc (.cells #[.int .i64 I.next.periods,.int .i64 I.next.income,.int .i64 I.next.withheld,.slice Ai I.next.insured.length ci,.slice At I.next.taken.length ct] 53)
  have HBAL:=Lib.hid (balanced_yes I.b I.legal A c I.lines _ (hSL.adv hb4) HIL.out)
  have hbw4:=bel_adv (bel_adv hbw2 hb3) hb4
  clear hSL hb3 hbw2 herr
  go_upto_region 3 with fail
  clear hb4
  generalize World.alloc (w3.alloc _) _ = w4 at hX4 hbw4 HBAL ⊢
  have z0:=hX4.cell 0
  have z1:=hX4.cell 1
  have z2:=hX4.cell 2
  have z3:=hX4.cell 3
  have z4:=hX4.cell 4
  have z5:=hX4.cell 5
  have z6:=hX4.cell 6
  simp only [nqg,nqh,nqi] at z0 z1 z2 z3 z4 z5 z6
  clear hX4
  go_wp2_with fail
  refine HBAL.out.mono ?_
  rintro e w5 ⟨rfl,hb5⟩
  have hbw5:=bel_adv hbw4 hb5
  clear HBAL hbw4 hb5 z0 z1 z2 z3 z4 z5 z6
  go_wp2_with fail
  refine (awake_any _).mono ?_
  rintro e w6 ⟨rfl,hb6⟩
  have hbw6:=bel_adv hbw5 hb6
  go_wp2
  go_ret
  exact ⟨rfl,hbw6⟩
 ·
  generalize (mkI rm pm ym kept first es).err = er at *
  have hner:(er != 0) = true:=by simpa using herr
  have hb4:=bel_alloc (below_new w3 (.cells #[.int .i64 0,.int .i64 0,.int .i64 0,.int .i64 0,.int .i64 0,.int .i64 0,.slice none 0 0] 27)) (.cells #[.int .i64 0,.int .i64 0,.int .i64 0,.slice none 0 0,.slice none 0 0] 53)
  have hX4:=(Blk.new w3 27 #[.int .i64 0,.int .i64 0,.int .i64 0,.int .i64 0,.int .i64 0,.int .i64 0,.slice none 0 0]).alloc (.cells #[.int .i64 0,.int .i64 0,.int .i64 0,.slice none 0 0,.slice none 0 0] 53)
  have hbw4:=bel_adv (bel_adv hbw2 hb3) hb4
  go_upto_region 3 with fail
  clear hb4 hb3 hbw2
  generalize World.alloc (w3.alloc _) _ = w4 at hX4 hbw4 ⊢
  have z0:=hX4.cell 0
  have z1:=hX4.cell 1
  have z2:=hX4.cell 2
  have z3:=hX4.cell 3
  have z4:=hX4.cell 4
  have z5:=hX4.cell 5
  have z6:=hX4.cell 6
  simp only [nqg,nqh,nqi] at z0 z1 z2 z3 z4 z5 z6
  clear hX4
  go_wp2_with fail
  refine (awake_any _).mono ?_
  rintro e w6 ⟨rfl,hb6⟩
  have hbw6:=bel_adv hbw4 hb6
  go_wp2
  go_ret
  exact ⟨rfl,hbw6⟩
end Go.Proofs.YtlhkojcmcmkmaaaGreat
namespace Go.Proofs.YtlhkojcmcmkmaaaGreat.netBalances
open Go.ChangeShapes Go.WideShapes Go.ChangeAt Go.RowKit
open Go.ChangeMaps (open_string shut_string)
theorem own : ownKnob Tryz.prog.godebug = none:=by kernel_rfl
theorem laidOut : laidOutB Tryz.prog = true:=by kernel_rfl
set_option maxRecDepth 100000 in
theorem lifted (os:Os) (started:os.Started) (H:Type) (enc:TypeId × Value→H) :
  ReturnsInHanded {} Tryz.checked os 5 .any (Rows.netBalancesSpec.pre6 enc Tryz.prog Tryz.f5 Rows.netBalancesRow.domain false) (Rows.netBalancesSpec.post enc Tryz.prog Tryz.f5 false true false false):=by
 refine returnsInHanded_of_change (C:=Tryz.checked) own started (by kernel_rfl) Tryz.func5
  (ChangeSpec.witness6 (enc:=enc) (C:=Tryz.checked) false ⟨#[],#[.slice none 0 0],[]⟩ 8 (by kernel_rfl) (by kernel_rfl) (by kernel_rfl) (by kernel_rfl)) ?_
 intro W base args ds gs before hval0 hW _ _
 have hval:∀ (j:Nat) t v,Tryz.f5.params[j]? = some t→args[j]? = some v→Value.okWide Tryz.prog W .any base t v:=hval0
 have hW':=hW
 obtain ⟨p,q,hA0,hV,rfl,_,_⟩:=hW
 have hA:DataW.TrodAll enc Tryz.prog W 0 (fun _=>true) true Tryz.f5.params.toList args.toList ds p:=hA0
 rw [Tryz.params5] at hA hval
 obtain ⟨v0,vs0,d0,ds0,p0,q0,hargs,rfl,rfl,h0,r0⟩:=trodAll_cons hA
 obtain ⟨rfl,rfl,rfl⟩:=trodAll_nil r0
 obtain rfl:args = #[v0]:=by cases args; simp_all
 obtain ⟨rfl,rfl⟩:=trodVars_none hV
 obtain ⟨a0,len0,cap0,rfl⟩:=okWide_slice Tryz.underlying34 (hval 0 34 v0 rfl rfl)
 have k0:=h0
 have lt0:∀ x ∈ p0,x.block < W.heap.size:=by obtain ⟨m,hm⟩:=k0; exact DataW.trod_lt m _ _ _ hm
 obtain ⟨xs0,rfl,hS0,hX0,hlc0,hcm0⟩:=openI h0
 have hl0:=Nat.le_trans hlc0 hcm0
 clear hA0 hval0
 refine (balances32_walk a0 cap0 xs0 W hS0 hl0 hX0).mono fun e W' ⟨he,bel⟩=>?_
 subst he
 exact ⟨_,rfl,_,_,_,[],_,[],hW',trodAll_mk1 (shut_bool Tryz.underlying4 _),(trodAll_cons_mk (Below.trod laidOut (by kernel_rfl) (of_decide_eq_true (by kernel_rfl)) k0 bel lt0) trodAll_mk0),rfl,bel.frame _,fun h=>by cases h⟩
theorem t4 : (Rows.netBalancesRow.inPlace == Tryz.prog.inPlace 5) = true:=by kernel_rfl
theorem t5 : (Rows.netBalancesRow.unfollowed == Tryz.prog.unfollowed 5) = true:=by kernel_rfl
theorem t6 : (Rows.netBalancesRow.recurses == Tryz.prog.recurses 5) = true:=by kernel_rfl
theorem t7 : (Rows.netBalancesRow.named == Tryz.prog.varsNamed 5) = true:=by kernel_rfl
theorem t8 : (Rows.netBalancesRow.pinned == Rows.netBalancesRow.pinnedBy) = true:=by kernel_rfl
theorem t9 : (Rows.netBalancesRow.lifted == Tryz.prog.liftsFinal) = true:=by kernel_rfl
theorem tc : joinedFacts Tryz.prog 5 Tryz.f5 Rows.netBalancesSpec Rows.netBalancesRow = true:=by
 unfold joinedFacts
 rw [t4,t5,t6,t7,t8,t9]
 kernel_rfl
theorem tf : Tryz.pinned.checked.prog.funcNamed Rows.netBalancesRow.func = some 5:=by kernel_rfl
theorem over : Rows.netBalancesRow.holds Tryz.pinned (OpenSpec.ofChange Rows.netBalancesSpec) :=
 OpenClaim.holds_of_wide 5 Tryz.f5 rfl rfl rfl rfl rfl rfl rfl ⟨rfl,rfl,rfl,rfl,rfl⟩ rfl rfl rfl rfl rfl tf Tryz.func5 tc
  (of_decide_eq_true (by kernel_rfl)) (by unfold Func.isWrapper; first | (rw [if_pos (by decide +kernel)]; kernel_rfl) | (rw [if_neg (by decide +kernel)]; exact ⟨rfl,rfl⟩))
  (fun os started H enc _=>lifted os started H enc)
theorem proved : Rows.NetBalancesSaid:=over
#print axioms proved
end Go.Proofs.YtlhkojcmcmkmaaaGreat.netBalances
