/- Proved: the tied card TopMinutesCardSaid: payrolltop.TopMinutes returns true for every input, and each argument reads afterwards as it read before. Conditions: the variable calendar.lengths reads as the row lists it; the given tie proves that of the program's text. -/
import Derived.SevenTiedAt
import Derived.Test.YtopekilofdadnaaGreatDoorCards
import Derived.Test.YtopekilofdadnaaGreatDoorTie
import Derived.Test.YtopekilofdadnaaGreatDoorJTgMi
import Derived.Test.YtopekilofdadnaaGreatDoorJTgLd
namespace Go.Proofs.YtopekilofdadnaaGreatDoor.topMinutes
open Go Go.ChangeShapes Go.WideShapes Go.ChangeAt Go.RowKit
theorem own : ownKnob Tryz.prog.godebug = none:=by kernel_rfl
theorem laidOut : laidOutB Tryz.prog = true:=by kernel_rfl
set_option maxRecDepth 100000 in
theorem lifted (os:Os) (started:os.Started) (H:Type) (enc:TypeId × Value→H) :
  ReturnsInHanded {} Tryz.checked os 4 .any (fun w args => (Rows.topMinutesSpec.pre enc Tryz.prog Tryz.f4 [] false w args ∧ laidMetH Tryz.prog [("payroll/calendar.lengths", Rows.laid_payroll_calendar_lengths)] w) ∧ sizedMet enc Tryz.prog Tryz.f4 (OpenSpec.ofChange Rows.topMinutesSpec) false w args)
   (Rows.topMinutesSpec.post enc Tryz.prog Tryz.f4 false true false false):=by
 refine returnsInHanded_of_change_and (C := Tryz.checked) (X := fun w _ => laidMetH Tryz.prog [("payroll/calendar.lengths", Rows.laid_payroll_calendar_lengths)] w) (fun _ _ _ hh h => h.of_heap hh) own started (by kernel_rfl) Tryz.func4
  (ChangeSpec.witness_shaped (enc := enc) (C := Tryz.checked) (os := os) (X := fun w _ => laidMetH Tryz.prog [("payroll/calendar.lengths", Rows.laid_payroll_calendar_lengths)] w) false (World.doorLaid Tryz.prog 14 os) #[.slice none 0 0] 8 rfl (World.shaped_of_RefB (by kernel_rfl) (by kernel_rfl)) (by kernel_rfl) (by kernel_rfl) (by kernel_rfl) (doorLens os _)) ?_
 intro W base args ds gs before hval0 hW _ _ hL _
 have hval:∀ (j:Nat) t v,Tryz.f4.params[j]? = some t→args[j]? = some v→Value.okWide Tryz.prog W .any base t v:=hval0
 have hW':=hW
 obtain ⟨p,q,hA0,hV,rfl,_,_⟩:=hW
 have hA:DataW.TrodAll enc Tryz.prog W 0 (fun _=>true) true Tryz.f4.params.toList args.toList ds p:=hA0
 rw [Tryz.params4] at hA hval
 obtain ⟨v0,d0,rfl,rfl,h0⟩:=trodAll_one hA
 obtain ⟨rfl,rfl⟩:=trodVars_none hV
 obtain ⟨a0,len0,cap0,rfl⟩:=okWide_slice Tryz.underlying22 (hval 0 22 v0 rfl rfl)
 have k0:=h0
 have lt0:∀ x ∈ p,x.block < W.heap.size:=by obtain ⟨m,hm⟩:=k0; exact DataW.trod_lt m _ _ _ hm
 obtain ⟨xs0,rfl,hS0,hX0,hlc0,hcm0⟩:=openI h0
 have hl0:=Nat.le_trans hlc0 hcm0
 have hLn:=lens_of_laid hL
 clear hA0 hval0 hL
 refine (minutes_walk a0 cap0 xs0 W hS0 (Nat.le_trans hl0 (by decide)) hX0 hLn).mono fun e W' ⟨he,bel⟩=>?_
 subst he
 exact ⟨_,rfl,_,_,_,[],_,[],hW',trodAll_mk1 (shut_bool Tryz.underlying4 _),trodAll_mk1 (Below.trod laidOut (by kernel_rfl) (of_decide_eq_true (by kernel_rfl)) k0 bel lt0),rfl,bel.frame _,fun h=>by cases h⟩
theorem t4 : (Rows.topMinutesRow.inPlace == Tryz.prog.inPlace 4) = true:=by kernel_rfl
theorem t5 : (Rows.topMinutesRow.unfollowed == Tryz.prog.unfollowed 4) = true:=by kernel_rfl
theorem t6 : (Rows.topMinutesRow.recurses == Tryz.prog.recurses 4) = true:=by kernel_rfl
theorem t7 : (Rows.topMinutesRow.named == Tryz.prog.varsNamed 4) = true:=by kernel_rfl
theorem t8 : (Rows.topMinutesRow.pinned == Rows.topMinutesRow.pinnedBy) = true:=by kernel_rfl
theorem t9 : (Rows.topMinutesRow.lifted == Tryz.prog.liftsFinal) = true:=by kernel_rfl
theorem tc : joinedFacts Tryz.prog 4 Tryz.f4 Rows.topMinutesSpec Rows.topMinutesRow = true:=by
 unfold joinedFacts
 rw [t4,t5,t6,t7,t8,t9]
 kernel_rfl
theorem tf : Tryz.pinned.checked.prog.funcNamed Rows.topMinutesRow.func = some 4:=by kernel_rfl
theorem over : Rows.TopMinutesSaid :=
 OpenClaim.holds_of_wide 4 Tryz.f4 rfl rfl rfl rfl rfl rfl rfl ⟨rfl,rfl,rfl,rfl,rfl⟩ rfl rfl rfl rfl rfl tf Tryz.func4 tc
  (of_decide_eq_true (by kernel_rfl)) (by unfold Func.isWrapper; first | (rw [if_pos (by decide +kernel)]; kernel_rfl) | (rw [if_neg (by decide +kernel)]; exact ⟨rfl,rfl⟩))
  (fun os started H enc _=>lifted os started H enc)
theorem proved : Rows.TopMinutesCardSaid :=
 Claim7.holds_tied_plain_at .later [] [.data] true (true, "ec9699fc99798246c30abdc2d7ad263a264f5dec0e95d44d1992351d51724cc3") false
  over (fun _ h=>by cases h) (by kernel_rfl) (fun _ h=>by cases h) topMinutes_row_tie rfl ⟨rfl,rfl⟩ (by kernel_rfl) rfl
  (fun f fn hf hfn=>by
   obtain rfl:f = 4:=Option.some.inj (tf.symm.trans hf) |>.symm
   obtain rfl:fn = Tryz.f4:=(Option.some.inj (Tryz.func4.symm.trans hfn)).symm
   exact ⟨by kernel_rfl,fun j t ht=>by
    rw [Tryz.params4] at ht
    have hm:t ∈ [22]:=by simpa using Array.mem_of_getElem? ht
    have hall:([22].all fun u=>!Tryz.prog.wantsStandIn u) = true:=by kernel_rfl
    exact (show Tryz.prog.wantsStandIn t = false by simpa using List.all_eq_true.1 hall t hm)⟩)
  (by kernel_rfl)
#print axioms proved
end Go.Proofs.YtopekilofdadnaaGreatDoor.topMinutes
