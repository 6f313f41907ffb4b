/- Proved: the tied card TopShiftCardSaid: payrolltop.TopShift returns true for every input, and each argument reads afterwards as it read before. Conditions: the variable calendar.lengths reads as the row lists it; the given tie proves that of the program's text. -/
import Derived.SevenTiedAt
import Derived.Test.YtopekilofdadnaaGreatDoorCards
import Derived.Test.YtopekilofdadnaaGreatDoorTie
import Derived.Test.YtopekilofdadnaaGreatDoorJTgSh
import Derived.Test.YtopekilofdadnaaGreatDoorJTgLd
namespace Go.Proofs.YtopekilofdadnaaGreatDoor.topShift
open Go Go.ChangeShapes Go.WideShapes Go.ChangeAt Go.RowKit
theorem own : ownKnob Tryz.prog.godebug = none:=by kernel_rfl
theorem laidOut : laidOutB Tryz.prog = true:=by kernel_rfl
set_option maxRecDepth 100000 in
theorem lifted (os:Os) (started:os.Started) (H:Type) (enc:TypeId × Value→H) :
  ReturnsInHanded {} Tryz.checked os 3 .any (fun w args => (Rows.topShiftSpec.pre enc Tryz.prog Tryz.f3 [] false w args ∧ laidMetH Tryz.prog [("payroll/calendar.lengths", Rows.laid_payroll_calendar_lengths)] w) ∧ sizedMet enc Tryz.prog Tryz.f3 (OpenSpec.ofChange Rows.topShiftSpec) false w args)
   (Rows.topShiftSpec.post enc Tryz.prog Tryz.f3 false true false false):=by
 refine returnsInHanded_of_change_and (C := Tryz.checked) (X := fun w _ => laidMetH Tryz.prog [("payroll/calendar.lengths", Rows.laid_payroll_calendar_lengths)] w) (fun _ _ _ hh h => h.of_heap hh) own started (by kernel_rfl) Tryz.func3
  (ChangeSpec.witness_shaped (enc := enc) (C := Tryz.checked) (os := os) (X := fun w _ => laidMetH Tryz.prog [("payroll/calendar.lengths", Rows.laid_payroll_calendar_lengths)] w) false (World.doorLaid Tryz.prog 14 os) #[.slice none 0 0, .int .i64 0, .int .i64 0] 8 rfl (World.shaped_of_RefB (by kernel_rfl) (by kernel_rfl)) (by kernel_rfl) (by kernel_rfl) (by kernel_rfl) (doorLens os _)) ?_
 intro W base args ds gs before hval0 hW _ _ hL _
 have hval:∀ (j:Nat) t v,Tryz.f3.params[j]? = some t→args[j]? = some v→Value.okWide Tryz.prog W .any base t v:=hval0
 have hW':=hW
 obtain ⟨p,q,hA0,hV,rfl,_,_⟩:=hW
 have hA:DataW.TrodAll enc Tryz.prog W 0 (fun _=>true) true Tryz.f3.params.toList args.toList ds p:=hA0
 rw [Tryz.params3] at hA hval
 obtain ⟨v0,vs0,d0,ds0,p0,q0,hargs,rfl,rfl,h0,r0⟩:=trodAll_cons hA
 obtain ⟨v1,vs1,d1,ds1,p1,q1,rfl,rfl,rfl,h1,r1⟩:=trodAll_cons r0
 obtain ⟨v2,vs2,d2,ds2,p2,q2,rfl,rfl,rfl,h2,r2⟩:=trodAll_cons r1
 obtain ⟨rfl,rfl,rfl⟩:=trodAll_nil r2
 obtain rfl:args = #[v0,v1,v2]:=by cases args; simp_all
 obtain ⟨rfl,rfl⟩:=trodVars_none hV
 obtain ⟨a0,len0,cap0,rfl⟩:=okWide_slice Tryz.underlying22 (hval 0 22 v0 rfl rfl)
 have k0:=h0
 have lt0:∀ x ∈ p0,x.block < W.heap.size:=by obtain ⟨m,hm⟩:=k0; exact DataW.trod_lt m _ _ _ hm
 obtain ⟨xs0,rfl,hS0,hX0,hlc0,hcm0⟩:=openI h0
 have hl0:=Nat.le_trans hlc0 hcm0
 obtain ⟨n1,rfl,rfl,rfl,wn1⟩:=open_int Tryz.underlying3 (hval 1 3 v1 rfl rfl) h1
 obtain ⟨n2,rfl,rfl,rfl,wn2⟩:=open_int Tryz.underlying3 (hval 2 3 v2 rfl rfl) h2
 have hLn:=lens_of_laid hL
 clear hA0 hval0 hL
 refine (shift_walk a0 cap0 xs0 n1 n2 W hS0 (Nat.le_trans hl0 (by decide)) hX0 hLn).mono fun e W' ⟨he,bel⟩=>?_
 subst he
 exact ⟨_,rfl,_,_,_,[],_,[],hW',trodAll_mk1 (shut_bool Tryz.underlying4 _),trodAll_cons_mk (Below.trod laidOut (by kernel_rfl) (of_decide_eq_true (by kernel_rfl)) k0 bel lt0) (trodAll_cons_mk (shut_int Tryz.underlying3 wn1) (trodAll_cons_mk (shut_int Tryz.underlying3 wn2) trodAll_mk0)),rfl,bel.frame _,fun h=>by cases h⟩
theorem t4 : (Rows.topShiftRow.inPlace == Tryz.prog.inPlace 3) = true:=by kernel_rfl
theorem t5 : (Rows.topShiftRow.unfollowed == Tryz.prog.unfollowed 3) = true:=by kernel_rfl
theorem t6 : (Rows.topShiftRow.recurses == Tryz.prog.recurses 3) = true:=by kernel_rfl
theorem t7 : (Rows.topShiftRow.named == Tryz.prog.varsNamed 3) = true:=by kernel_rfl
theorem t8 : (Rows.topShiftRow.pinned == Rows.topShiftRow.pinnedBy) = true:=by kernel_rfl
theorem t9 : (Rows.topShiftRow.lifted == Tryz.prog.liftsFinal) = true:=by kernel_rfl
theorem tc : joinedFacts Tryz.prog 3 Tryz.f3 Rows.topShiftSpec Rows.topShiftRow = true:=by
 unfold joinedFacts
 rw [t4,t5,t6,t7,t8,t9]
 kernel_rfl
theorem tf : Tryz.pinned.checked.prog.funcNamed Rows.topShiftRow.func = some 3:=by kernel_rfl
theorem over : Rows.TopShiftSaid :=
 OpenClaim.holds_of_wide 3 Tryz.f3 rfl rfl rfl rfl rfl rfl rfl ⟨rfl,rfl,rfl,rfl,rfl⟩ rfl rfl rfl rfl rfl tf Tryz.func3 tc
  (of_decide_eq_true (by kernel_rfl)) (by unfold Func.isWrapper; first | (rw [if_pos (by decide +kernel)]; kernel_rfl) | (rw [if_neg (by decide +kernel)]; exact ⟨rfl,rfl⟩))
  (fun os started H enc _=>lifted os started H enc)
theorem proved : Rows.TopShiftCardSaid :=
 Claim7.holds_tied_plain_at .later [] [.data] true (true, "ec9699fc99798246c30abdc2d7ad263a264f5dec0e95d44d1992351d51724cc3") false
  over (fun _ h=>by cases h) (by kernel_rfl) (fun _ h=>by cases h) topShift_row_tie rfl ⟨rfl,rfl⟩ (by kernel_rfl) rfl
  (fun f fn hf hfn=>by
   obtain rfl:f = 3:=Option.some.inj (tf.symm.trans hf) |>.symm
   obtain rfl:fn = Tryz.f3:=(Option.some.inj (Tryz.func3.symm.trans hfn)).symm
   exact ⟨by kernel_rfl,fun j t ht=>by
    rw [Tryz.params3] at ht
    have hm:t ∈ [22,3,3]:=by simpa using Array.mem_of_getElem? ht
    have hall:([22,3,3].all fun u=>!Tryz.prog.wantsStandIn u) = true:=by kernel_rfl
    exact (show Tryz.prog.wantsStandIn t = false by simpa using List.all_eq_true.1 hall t hm)⟩)
  (by kernel_rfl)
#print axioms proved
end Go.Proofs.YtopekilofdadnaaGreatDoor.topShift
