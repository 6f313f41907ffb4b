/-
  No cell of these rows narrows 'for every input' (looked for: loops, veiled, ifaces, maps, wideKeys, modest, calm, conditions, laid).
  DERIVED. THE GIVEN ROWS OF THIS SEAT. 8 by the template 'for every input the law returns true; each argument reads behind the call as it read before'; 0 by the template 'total and deterministic' (their statements: YtnbfhnhneakajaaTotals.lean).
  GIVEN WITH THE SEED: the statements are not yours to turn. If you find one false, say at which input.
  Laid BY PROGRAM, IN A SANDBOX (cutbox-rows.mjs): the forced cells as the released guide's own fill.sh prints them over the translation efb8a54adc776ff7… (all of the seat's roots in one cut). By AI agents, Wed Nov 11 2026. No macro, syntax, notation, axiom, sorry.
-/
import Derived.Test.YtnbfhnhneakajaaChecked
import GoSem.Claim
import GoSem.ClaimJoined
import GoSem.ClaimMapViews
import Derived.JoinedTies
import Derived.KernelRfl
namespace Go.Proofs.Ytnbfhnhneakajaa
/- THE CELL 'sum', in the pinned program and in every row, IS THE sha256 OF THE DUMP (.gsa) THAT YtnbfhnhneakajaaProg.lean LOADS. Nothing in Lean hashes anything: it is a label: what it is worth is what the hold of that sum in a sandbox is worth. -/
noncomputable def Try.pinned : Pinned := { name := "ytnbfhnhneakajaa", sum := "efb8a54adc776ff7740995c970d6c9e4d92b1576630270323a3950239c5b0843", checked := Try.checked }
namespace Rows
def none {H : Type} : Left H := { results := [], args := [] }

/-- 'payrolllaw37.DeltaPosts': WHATEVER THE INPUT: true; the input reads as it did. -/
def deltaPostsSpec : ChangeSpec := { name := "deltaPosts", fn := fun _ => fun
  | [d1, d2, d3, d4, d5, d6] => { results := [.lit (.bool true)], args := [d1, d2, d3, d4, d5, d6] }
  | _ => none }
def deltaPostsRow : OpenClaim := { program := "ytnbfhnhneakajaa", sum := "efb8a54adc776ff7740995c970d6c9e4d92b1576630270323a3950239c5b0843", func := "payroll/payrolllaw37.DeltaPosts", spec := "deltaPosts", unfollowed := true, recurses := true, plainKeys := false, apart := false }
def DeltaPostsSaid : Prop := deltaPostsRow.holds Try.pinned (OpenSpec.ofChange deltaPostsSpec)

/-- ITS FALSE NEIGHBOUR: 'it returns false'. Refute it at one input. -/
def deltaPostsWrong : ChangeSpec := { name := "deltaPosts", fn := fun _ => fun
  | [d1, d2, d3, d4, d5, d6] => { results := [.lit (.bool false)], args := [d1, d2, d3, d4, d5, d6] }
  | _ => none }
def DeltaPostsWrongFalsely : Prop := deltaPostsRow.holds Try.pinned (OpenSpec.ofChange deltaPostsWrong)

/-- 'payrolllaw37.DeltaRecovers': WHATEVER THE INPUT: true; the input reads as it did. -/
def deltaRecoversSpec : ChangeSpec := { name := "deltaRecovers", fn := fun _ => fun
  | [d1, d2, d3, d4, d5] => { results := [.lit (.bool true)], args := [d1, d2, d3, d4, d5] }
  | _ => none }
def deltaRecoversRow : OpenClaim := { program := "ytnbfhnhneakajaa", sum := "efb8a54adc776ff7740995c970d6c9e4d92b1576630270323a3950239c5b0843", func := "payroll/payrolllaw37.DeltaRecovers", spec := "deltaRecovers", unfollowed := true, recurses := true, plainKeys := false, apart := false }
def DeltaRecoversSaid : Prop := deltaRecoversRow.holds Try.pinned (OpenSpec.ofChange deltaRecoversSpec)

/-- ITS FALSE NEIGHBOUR: 'it returns false'. Refute it at one input. -/
def deltaRecoversWrong : ChangeSpec := { name := "deltaRecovers", fn := fun _ => fun
  | [d1, d2, d3, d4, d5] => { results := [.lit (.bool false)], args := [d1, d2, d3, d4, d5] }
  | _ => none }
def DeltaRecoversWrongFalsely : Prop := deltaRecoversRow.holds Try.pinned (OpenSpec.ofChange deltaRecoversWrong)

/-- 'payrolllaw37.DeltaProtects': WHATEVER THE INPUT: true; the input reads as it did. -/
def deltaProtectsSpec : ChangeSpec := { name := "deltaProtects", fn := fun _ => fun
  | [d] => { results := [.lit (.bool true)], args := [d] }
  | _ => none }
def deltaProtectsRow : OpenClaim := { program := "ytnbfhnhneakajaa", sum := "efb8a54adc776ff7740995c970d6c9e4d92b1576630270323a3950239c5b0843", func := "payroll/payrolllaw37.DeltaProtects", spec := "deltaProtects", unfollowed := true, recurses := true, plainKeys := false, apart := false }
def DeltaProtectsSaid : Prop := deltaProtectsRow.holds Try.pinned (OpenSpec.ofChange deltaProtectsSpec)

/-- ITS FALSE NEIGHBOUR: 'it returns false'. Refute it at one input. -/
def deltaProtectsWrong : ChangeSpec := { name := "deltaProtects", fn := fun _ => fun
  | [d] => { results := [.lit (.bool false)], args := [d] }
  | _ => none }
def DeltaProtectsWrongFalsely : Prop := deltaProtectsRow.holds Try.pinned (OpenSpec.ofChange deltaProtectsWrong)

/-- 'payrolllaw37.DeltaNothing': WHATEVER THE INPUT: true; the input reads as it did. -/
def deltaNothingSpec : ChangeSpec := { name := "deltaNothing", fn := fun _ => fun
  | [d1, d2] => { results := [.lit (.bool true)], args := [d1, d2] }
  | _ => none }
def deltaNothingRow : OpenClaim := { program := "ytnbfhnhneakajaa", sum := "efb8a54adc776ff7740995c970d6c9e4d92b1576630270323a3950239c5b0843", func := "payroll/payrolllaw37.DeltaNothing", spec := "deltaNothing", unfollowed := true, recurses := true, plainKeys := false, apart := false }
def DeltaNothingSaid : Prop := deltaNothingRow.holds Try.pinned (OpenSpec.ofChange deltaNothingSpec)

/-- ITS FALSE NEIGHBOUR: 'it returns false'. Refute it at one input. -/
def deltaNothingWrong : ChangeSpec := { name := "deltaNothing", fn := fun _ => fun
  | [d1, d2] => { results := [.lit (.bool false)], args := [d1, d2] }
  | _ => none }
def DeltaNothingWrongFalsely : Prop := deltaNothingRow.holds Try.pinned (OpenSpec.ofChange deltaNothingWrong)

/-- 'payrolllaw37.DeltaLimits': WHATEVER THE INPUT: true; the input reads as it did. -/
def deltaLimitsSpec : ChangeSpec := { name := "deltaLimits", fn := fun _ => fun
  | [d] => { results := [.lit (.bool true)], args := [d] }
  | _ => none }
def deltaLimitsRow : OpenClaim := { program := "ytnbfhnhneakajaa", sum := "efb8a54adc776ff7740995c970d6c9e4d92b1576630270323a3950239c5b0843", func := "payroll/payrolllaw37.DeltaLimits", spec := "deltaLimits", unfollowed := true, recurses := true, plainKeys := false, apart := false }
def DeltaLimitsSaid : Prop := deltaLimitsRow.holds Try.pinned (OpenSpec.ofChange deltaLimitsSpec)

/-- ITS FALSE NEIGHBOUR: 'it returns false'. Refute it at one input. -/
def deltaLimitsWrong : ChangeSpec := { name := "deltaLimits", fn := fun _ => fun
  | [d] => { results := [.lit (.bool false)], args := [d] }
  | _ => none }
def DeltaLimitsWrongFalsely : Prop := deltaLimitsRow.holds Try.pinned (OpenSpec.ofChange deltaLimitsWrong)

/-- 'payrolllaw37.DeltaSchedules': WHATEVER THE INPUT: true; the input reads as it did. -/
def deltaSchedulesSpec : ChangeSpec := { name := "deltaSchedules", fn := fun _ => fun
  | [d1, d2, d3, d4, d5] => { results := [.lit (.bool true)], args := [d1, d2, d3, d4, d5] }
  | _ => none }
def deltaSchedulesRow : OpenClaim := { program := "ytnbfhnhneakajaa", sum := "efb8a54adc776ff7740995c970d6c9e4d92b1576630270323a3950239c5b0843", func := "payroll/payrolllaw37.DeltaSchedules", spec := "deltaSchedules", unfollowed := true, recurses := true, plainKeys := false, apart := false }
def DeltaSchedulesSaid : Prop := deltaSchedulesRow.holds Try.pinned (OpenSpec.ofChange deltaSchedulesSpec)

/-- ITS FALSE NEIGHBOUR: 'it returns false'. Refute it at one input. -/
def deltaSchedulesWrong : ChangeSpec := { name := "deltaSchedules", fn := fun _ => fun
  | [d1, d2, d3, d4, d5] => { results := [.lit (.bool false)], args := [d1, d2, d3, d4, d5] }
  | _ => none }
def DeltaSchedulesWrongFalsely : Prop := deltaSchedulesRow.holds Try.pinned (OpenSpec.ofChange deltaSchedulesWrong)

/-- 'payrolllaw37.DeltaMonths': WHATEVER THE INPUT: true; the input reads as it did. -/
def deltaMonthsSpec : ChangeSpec := { name := "deltaMonths", fn := fun _ => fun
  | [d] => { results := [.lit (.bool true)], args := [d] }
  | _ => none }
def deltaMonthsRow : OpenClaim := { program := "ytnbfhnhneakajaa", sum := "efb8a54adc776ff7740995c970d6c9e4d92b1576630270323a3950239c5b0843", func := "payroll/payrolllaw37.DeltaMonths", spec := "deltaMonths", unfollowed := true, recurses := true, plainKeys := false, apart := false }
def DeltaMonthsSaid : Prop := deltaMonthsRow.holds Try.pinned (OpenSpec.ofChange deltaMonthsSpec)

/-- ITS FALSE NEIGHBOUR: 'it returns false'. Refute it at one input. -/
def deltaMonthsWrong : ChangeSpec := { name := "deltaMonths", fn := fun _ => fun
  | [d] => { results := [.lit (.bool false)], args := [d] }
  | _ => none }
def DeltaMonthsWrongFalsely : Prop := deltaMonthsRow.holds Try.pinned (OpenSpec.ofChange deltaMonthsWrong)

/-- 'payrolllaw37.DeltaShort': WHATEVER THE INPUT: true; the input reads as it did. -/
def deltaShortSpec : ChangeSpec := { name := "deltaShort", fn := fun _ => fun
  | [d] => { results := [.lit (.bool true)], args := [d] }
  | _ => none }
def deltaShortRow : OpenClaim := { program := "ytnbfhnhneakajaa", sum := "efb8a54adc776ff7740995c970d6c9e4d92b1576630270323a3950239c5b0843", func := "payroll/payrolllaw37.DeltaShort", spec := "deltaShort", unfollowed := true, recurses := true, plainKeys := false, apart := false }
def DeltaShortSaid : Prop := deltaShortRow.holds Try.pinned (OpenSpec.ofChange deltaShortSpec)

/-- ITS FALSE NEIGHBOUR: 'it returns false'. Refute it at one input. -/
def deltaShortWrong : ChangeSpec := { name := "deltaShort", fn := fun _ => fun
  | [d] => { results := [.lit (.bool false)], args := [d] }
  | _ => none }
def DeltaShortWrongFalsely : Prop := deltaShortRow.holds Try.pinned (OpenSpec.ofChange deltaShortWrong)

/- THE SECOND FORM. 'bulk': how many values and letters a reading holds, each counted each time it is reached (what is shared counts as often as it is met; a slice's spare places count too). A statement '..UptoSaid' is the law's where the arguments, and the package variables that the reading takes, are together of bulk at most 1048576: NARROWER than '..Said'. Prove '..Said' where nothing that the law and all that it calls make is longer than what came in: it says more and counts as full. Else prove '..UptoSaid'. A law counts once. -/
mutual
def uptoBulk {H : Type} : DataW H → Nat
  | .lit (.string bytes) => bytes.length + 1
  | .lit _ => 1
  | .nil => 1
  | .ptr d => uptoBulk d + 1
  | .slice elems spare => uptoBulkAll elems + uptoBulkAll spare + 1
  | .agg parts => uptoBulkAll parts + 1
  | .iface _ d => uptoBulk d + 1
  | .map entries => uptoBulkEntries entries + 1
  | .held _ => 1
def uptoBulkAll {H : Type} : List (DataW H) → Nat
  | [] => 0
  | d :: r => uptoBulk d + uptoBulkAll r
def uptoBulkEntries {H : Type} : List (Lit × DataW H) → Nat
  | [] => 0
  | x :: r => uptoBulkEntry x + uptoBulkEntries r
def uptoBulkEntry {H : Type} : Lit × DataW H → Nat
  | (.string bytes, d) => bytes.length + uptoBulk d + 1
  | (_, d) => uptoBulk d + 1
 end
def uptoSmall : (H : Type) → List (DataW H) → Bool := fun _ ds => decide (uptoBulkAll ds ≤ 1048576)
def OpenSpec.upto (s : _root_.Go.ChangeSpec) : _root_.Go.OpenSpec := { _root_.Go.OpenSpec.ofChange s with cond := some uptoSmall }

/-- 'payrolllaw37.DeltaPosts', WHERE WHAT IT READS IS OF BULK AT MOST 1048576: true; the input reads as it did. -/
def deltaPostsUptoRow : OpenClaim := { program := "ytnbfhnhneakajaa", sum := "efb8a54adc776ff7740995c970d6c9e4d92b1576630270323a3950239c5b0843", func := "payroll/payrolllaw37.DeltaPosts", spec := "deltaPosts", unfollowed := true, recurses := true, plainKeys := false, apart := false, narrowed := true }
def DeltaPostsUptoSaid : Prop := deltaPostsUptoRow.holds Try.pinned (OpenSpec.upto deltaPostsSpec)

/-- 'payrolllaw37.DeltaRecovers', WHERE WHAT IT READS IS OF BULK AT MOST 1048576: true; the input reads as it did. -/
def deltaRecoversUptoRow : OpenClaim := { program := "ytnbfhnhneakajaa", sum := "efb8a54adc776ff7740995c970d6c9e4d92b1576630270323a3950239c5b0843", func := "payroll/payrolllaw37.DeltaRecovers", spec := "deltaRecovers", unfollowed := true, recurses := true, plainKeys := false, apart := false, narrowed := true }
def DeltaRecoversUptoSaid : Prop := deltaRecoversUptoRow.holds Try.pinned (OpenSpec.upto deltaRecoversSpec)

/-- 'payrolllaw37.DeltaProtects', WHERE WHAT IT READS IS OF BULK AT MOST 1048576: true; the input reads as it did. -/
def deltaProtectsUptoRow : OpenClaim := { program := "ytnbfhnhneakajaa", sum := "efb8a54adc776ff7740995c970d6c9e4d92b1576630270323a3950239c5b0843", func := "payroll/payrolllaw37.DeltaProtects", spec := "deltaProtects", unfollowed := true, recurses := true, plainKeys := false, apart := false, narrowed := true }
def DeltaProtectsUptoSaid : Prop := deltaProtectsUptoRow.holds Try.pinned (OpenSpec.upto deltaProtectsSpec)

/-- 'payrolllaw37.DeltaNothing', WHERE WHAT IT READS IS OF BULK AT MOST 1048576: true; the input reads as it did. -/
def deltaNothingUptoRow : OpenClaim := { program := "ytnbfhnhneakajaa", sum := "efb8a54adc776ff7740995c970d6c9e4d92b1576630270323a3950239c5b0843", func := "payroll/payrolllaw37.DeltaNothing", spec := "deltaNothing", unfollowed := true, recurses := true, plainKeys := false, apart := false, narrowed := true }
def DeltaNothingUptoSaid : Prop := deltaNothingUptoRow.holds Try.pinned (OpenSpec.upto deltaNothingSpec)

/-- 'payrolllaw37.DeltaLimits', WHERE WHAT IT READS IS OF BULK AT MOST 1048576: true; the input reads as it did. -/
def deltaLimitsUptoRow : OpenClaim := { program := "ytnbfhnhneakajaa", sum := "efb8a54adc776ff7740995c970d6c9e4d92b1576630270323a3950239c5b0843", func := "payroll/payrolllaw37.DeltaLimits", spec := "deltaLimits", unfollowed := true, recurses := true, plainKeys := false, apart := false, narrowed := true }
def DeltaLimitsUptoSaid : Prop := deltaLimitsUptoRow.holds Try.pinned (OpenSpec.upto deltaLimitsSpec)

/-- 'payrolllaw37.DeltaSchedules', WHERE WHAT IT READS IS OF BULK AT MOST 1048576: true; the input reads as it did. -/
def deltaSchedulesUptoRow : OpenClaim := { program := "ytnbfhnhneakajaa", sum := "efb8a54adc776ff7740995c970d6c9e4d92b1576630270323a3950239c5b0843", func := "payroll/payrolllaw37.DeltaSchedules", spec := "deltaSchedules", unfollowed := true, recurses := true, plainKeys := false, apart := false, narrowed := true }
def DeltaSchedulesUptoSaid : Prop := deltaSchedulesUptoRow.holds Try.pinned (OpenSpec.upto deltaSchedulesSpec)

/-- 'payrolllaw37.DeltaMonths', WHERE WHAT IT READS IS OF BULK AT MOST 1048576: true; the input reads as it did. -/
def deltaMonthsUptoRow : OpenClaim := { program := "ytnbfhnhneakajaa", sum := "efb8a54adc776ff7740995c970d6c9e4d92b1576630270323a3950239c5b0843", func := "payroll/payrolllaw37.DeltaMonths", spec := "deltaMonths", unfollowed := true, recurses := true, plainKeys := false, apart := false, narrowed := true }
def DeltaMonthsUptoSaid : Prop := deltaMonthsUptoRow.holds Try.pinned (OpenSpec.upto deltaMonthsSpec)

/-- 'payrolllaw37.DeltaShort', WHERE WHAT IT READS IS OF BULK AT MOST 1048576: true; the input reads as it did. -/
def deltaShortUptoRow : OpenClaim := { program := "ytnbfhnhneakajaa", sum := "efb8a54adc776ff7740995c970d6c9e4d92b1576630270323a3950239c5b0843", func := "payroll/payrolllaw37.DeltaShort", spec := "deltaShort", unfollowed := true, recurses := true, plainKeys := false, apart := false, narrowed := true }
def DeltaShortUptoSaid : Prop := deltaShortUptoRow.holds Try.pinned (OpenSpec.upto deltaShortSpec)

end Rows
end Go.Proofs.Ytnbfhnhneakajaa
