/-
  No cell of these rows narrows 'for every input' (looked for: loops, veiled, ifaces, maps, wideKeys, modest, calm, conditions, laid).
  DERIVED. THE GIVEN ROWS OF THIS SEAT. 6 by the template 'for every input the law returns true; each argument reads behind the call as it read before'; 0 by the template 'total and deterministic' (their statements: YtcpkdpflkjjlcaaTotals.lean).
  GIVEN WITH THE SEED: the statements are not yours to turn. If you find one false, say at which input.
  Laid BY PROGRAM, IN A SANDBOX (cutbox-rows.mjs): the forced cells as the released guide's own fill.sh prints them over the translation 0fbf932a0cdaaadb… (all of the seat's roots in one cut). By AI agents, Wed Nov 11 2026. No macro, syntax, notation, axiom, sorry.
-/
import Derived.Test.YtcpkdpflkjjlcaaChecked
import GoSem.Claim
import GoSem.ClaimJoined
import GoSem.ClaimMapViews
import Derived.JoinedTies
import Derived.KernelRfl
namespace Go.Proofs.Ytcpkdpflkjjlcaa
/- THE CELL 'sum', in the pinned program and in every row, IS THE sha256 OF THE DUMP (.gsa) THAT YtcpkdpflkjjlcaaProg.lean LOADS. Nothing in Lean hashes anything: it is a label: what it is worth is what the hold of that sum in a sandbox is worth. -/
noncomputable def Try.pinned : Pinned := { name := "ytcpkdpflkjjlcaa", sum := "0fbf932a0cdaaadb3965fbb5ec262b98ff49a28f835e58ba3bc5cbbb2b8ed166", checked := Try.checked }
namespace Rows
def none {H : Type} : Left H := { results := [], args := [] }

/-- 'payrolllaw27.DeductionValid': WHATEVER THE INPUT: true; the input reads as it did. -/
def deductionValidSpec : ChangeSpec := { name := "deductionValid", fn := fun _ => fun
  | [d1, d2, d3, d4, d5] => { results := [.lit (.bool true)], args := [d1, d2, d3, d4, d5] }
  | _ => none }
def deductionValidRow : OpenClaim := { program := "ytcpkdpflkjjlcaa", sum := "0fbf932a0cdaaadb3965fbb5ec262b98ff49a28f835e58ba3bc5cbbb2b8ed166", func := "payroll/payrolllaw27.DeductionValid", spec := "deductionValid", unfollowed := true, recurses := true, apart := false }
def DeductionValidSaid : Prop := deductionValidRow.holds Try.pinned (OpenSpec.ofChange deductionValidSpec)

/-- ITS FALSE NEIGHBOUR: 'it returns false'. Refute it at one input. -/
def deductionValidWrong : ChangeSpec := { name := "deductionValid", fn := fun _ => fun
  | [d1, d2, d3, d4, d5] => { results := [.lit (.bool false)], args := [d1, d2, d3, d4, d5] }
  | _ => none }
def DeductionValidWrongFalsely : Prop := deductionValidRow.holds Try.pinned (OpenSpec.ofChange deductionValidWrong)

/-- 'payrolllaw27.DeductionWanted': WHATEVER THE INPUT: true; the input reads as it did. -/
def deductionWantedSpec : ChangeSpec := { name := "deductionWanted", fn := fun _ => fun
  | [d1, d2, d3, d4] => { results := [.lit (.bool true)], args := [d1, d2, d3, d4] }
  | _ => none }
def deductionWantedRow : OpenClaim := { program := "ytcpkdpflkjjlcaa", sum := "0fbf932a0cdaaadb3965fbb5ec262b98ff49a28f835e58ba3bc5cbbb2b8ed166", func := "payroll/payrolllaw27.DeductionWanted", spec := "deductionWanted", unfollowed := true, recurses := true, apart := false }
def DeductionWantedSaid : Prop := deductionWantedRow.holds Try.pinned (OpenSpec.ofChange deductionWantedSpec)

/-- ITS FALSE NEIGHBOUR: 'it returns false'. Refute it at one input. -/
def deductionWantedWrong : ChangeSpec := { name := "deductionWanted", fn := fun _ => fun
  | [d1, d2, d3, d4] => { results := [.lit (.bool false)], args := [d1, d2, d3, d4] }
  | _ => none }
def DeductionWantedWrongFalsely : Prop := deductionWantedRow.holds Try.pinned (OpenSpec.ofChange deductionWantedWrong)

/-- 'payrolllaw27.DeductionTakes': WHATEVER THE INPUT: true; the input reads as it did. -/
def deductionTakesSpec : ChangeSpec := { name := "deductionTakes", fn := fun _ => fun
  | [d1, d2, d3, d4, d5, d6] => { results := [.lit (.bool true)], args := [d1, d2, d3, d4, d5, d6] }
  | _ => none }
def deductionTakesRow : OpenClaim := { program := "ytcpkdpflkjjlcaa", sum := "0fbf932a0cdaaadb3965fbb5ec262b98ff49a28f835e58ba3bc5cbbb2b8ed166", func := "payroll/payrolllaw27.DeductionTakes", spec := "deductionTakes", unfollowed := true, recurses := true, apart := false }
def DeductionTakesSaid : Prop := deductionTakesRow.holds Try.pinned (OpenSpec.ofChange deductionTakesSpec)

/-- ITS FALSE NEIGHBOUR: 'it returns false'. Refute it at one input. -/
def deductionTakesWrong : ChangeSpec := { name := "deductionTakes", fn := fun _ => fun
  | [d1, d2, d3, d4, d5, d6] => { results := [.lit (.bool false)], args := [d1, d2, d3, d4, d5, d6] }
  | _ => none }
def DeductionTakesWrongFalsely : Prop := deductionTakesRow.holds Try.pinned (OpenSpec.ofChange deductionTakesWrong)

/-- 'payrolllaw27.DeductionStops': WHATEVER THE INPUT: true; the input reads as it did. -/
def deductionStopsSpec : ChangeSpec := { name := "deductionStops", fn := fun _ => fun
  | [d1, d2] => { results := [.lit (.bool true)], args := [d1, d2] }
  | _ => none }
def deductionStopsRow : OpenClaim := { program := "ytcpkdpflkjjlcaa", sum := "0fbf932a0cdaaadb3965fbb5ec262b98ff49a28f835e58ba3bc5cbbb2b8ed166", func := "payroll/payrolllaw27.DeductionStops", spec := "deductionStops", unfollowed := true, recurses := true, apart := false }
def DeductionStopsSaid : Prop := deductionStopsRow.holds Try.pinned (OpenSpec.ofChange deductionStopsSpec)

/-- ITS FALSE NEIGHBOUR: 'it returns false'. Refute it at one input. -/
def deductionStopsWrong : ChangeSpec := { name := "deductionStops", fn := fun _ => fun
  | [d1, d2] => { results := [.lit (.bool false)], args := [d1, d2] }
  | _ => none }
def DeductionStopsWrongFalsely : Prop := deductionStopsRow.holds Try.pinned (OpenSpec.ofChange deductionStopsWrong)

/-- 'payrolllaw27.DeductionCaps': WHATEVER THE INPUT: true; the input reads as it did. -/
def deductionCapsSpec : ChangeSpec := { name := "deductionCaps", fn := fun _ => fun
  | [d] => { results := [.lit (.bool true)], args := [d] }
  | _ => none }
def deductionCapsRow : OpenClaim := { program := "ytcpkdpflkjjlcaa", sum := "0fbf932a0cdaaadb3965fbb5ec262b98ff49a28f835e58ba3bc5cbbb2b8ed166", func := "payroll/payrolllaw27.DeductionCaps", spec := "deductionCaps", unfollowed := true, recurses := true, apart := false }
def DeductionCapsSaid : Prop := deductionCapsRow.holds Try.pinned (OpenSpec.ofChange deductionCapsSpec)

/-- ITS FALSE NEIGHBOUR: 'it returns false'. Refute it at one input. -/
def deductionCapsWrong : ChangeSpec := { name := "deductionCaps", fn := fun _ => fun
  | [d] => { results := [.lit (.bool false)], args := [d] }
  | _ => none }
def DeductionCapsWrongFalsely : Prop := deductionCapsRow.holds Try.pinned (OpenSpec.ofChange deductionCapsWrong)

/-- 'payrolllaw27.DeductionAdds': WHATEVER THE INPUT: true; the input reads as it did. -/
def deductionAddsSpec : ChangeSpec := { name := "deductionAdds", fn := fun _ => fun
  | [d1, d2, d3] => { results := [.lit (.bool true)], args := [d1, d2, d3] }
  | _ => none }
def deductionAddsRow : OpenClaim := { program := "ytcpkdpflkjjlcaa", sum := "0fbf932a0cdaaadb3965fbb5ec262b98ff49a28f835e58ba3bc5cbbb2b8ed166", func := "payroll/payrolllaw27.DeductionAdds", spec := "deductionAdds", unfollowed := true, recurses := true, apart := false }
def DeductionAddsSaid : Prop := deductionAddsRow.holds Try.pinned (OpenSpec.ofChange deductionAddsSpec)

/-- ITS FALSE NEIGHBOUR: 'it returns false'. Refute it at one input. -/
def deductionAddsWrong : ChangeSpec := { name := "deductionAdds", fn := fun _ => fun
  | [d1, d2, d3] => { results := [.lit (.bool false)], args := [d1, d2, d3] }
  | _ => none }
def DeductionAddsWrongFalsely : Prop := deductionAddsRow.holds Try.pinned (OpenSpec.ofChange deductionAddsWrong)

/- THE SECOND FORM. 'bulk': how many values and letters a reading holds, each counted each time it is reached (what is shared counts as often as it is met; a slice's spare places count too). A statement '..UptoSaid' is the law's where the arguments, and the package variables that the reading takes, are together of bulk at most 1048576: NARROWER than '..Said'. Prove '..Said' where nothing that the law and all that it calls make is longer than what came in: it says more and counts as full. Else prove '..UptoSaid'. A law counts once. -/
mutual
def uptoBulk {H : Type} : DataW H → Nat
  | .lit (.string bytes) => bytes.length + 1
  | .lit _ => 1
  | .nil => 1
  | .ptr d => uptoBulk d + 1
  | .slice elems spare => uptoBulkAll elems + uptoBulkAll spare + 1
  | .agg parts => uptoBulkAll parts + 1
  | .iface _ d => uptoBulk d + 1
  | .map entries => uptoBulkEntries entries + 1
  | .held _ => 1
def uptoBulkAll {H : Type} : List (DataW H) → Nat
  | [] => 0
  | d :: r => uptoBulk d + uptoBulkAll r
def uptoBulkEntries {H : Type} : List (Lit × DataW H) → Nat
  | [] => 0
  | x :: r => uptoBulkEntry x + uptoBulkEntries r
def uptoBulkEntry {H : Type} : Lit × DataW H → Nat
  | (.string bytes, d) => bytes.length + uptoBulk d + 1
  | (_, d) => uptoBulk d + 1
 end
def uptoSmall : (H : Type) → List (DataW H) → Bool := fun _ ds => decide (uptoBulkAll ds ≤ 1048576)
def OpenSpec.upto (s : _root_.Go.ChangeSpec) : _root_.Go.OpenSpec := { _root_.Go.OpenSpec.ofChange s with cond := some uptoSmall }

/-- 'payrolllaw27.DeductionValid', WHERE WHAT IT READS IS OF BULK AT MOST 1048576: true; the input reads as it did. -/
def deductionValidUptoRow : OpenClaim := { program := "ytcpkdpflkjjlcaa", sum := "0fbf932a0cdaaadb3965fbb5ec262b98ff49a28f835e58ba3bc5cbbb2b8ed166", func := "payroll/payrolllaw27.DeductionValid", spec := "deductionValid", unfollowed := true, recurses := true, apart := false, narrowed := true }
def DeductionValidUptoSaid : Prop := deductionValidUptoRow.holds Try.pinned (OpenSpec.upto deductionValidSpec)

/-- 'payrolllaw27.DeductionWanted', WHERE WHAT IT READS IS OF BULK AT MOST 1048576: true; the input reads as it did. -/
def deductionWantedUptoRow : OpenClaim := { program := "ytcpkdpflkjjlcaa", sum := "0fbf932a0cdaaadb3965fbb5ec262b98ff49a28f835e58ba3bc5cbbb2b8ed166", func := "payroll/payrolllaw27.DeductionWanted", spec := "deductionWanted", unfollowed := true, recurses := true, apart := false, narrowed := true }
def DeductionWantedUptoSaid : Prop := deductionWantedUptoRow.holds Try.pinned (OpenSpec.upto deductionWantedSpec)

/-- 'payrolllaw27.DeductionTakes', WHERE WHAT IT READS IS OF BULK AT MOST 1048576: true; the input reads as it did. -/
def deductionTakesUptoRow : OpenClaim := { program := "ytcpkdpflkjjlcaa", sum := "0fbf932a0cdaaadb3965fbb5ec262b98ff49a28f835e58ba3bc5cbbb2b8ed166", func := "payroll/payrolllaw27.DeductionTakes", spec := "deductionTakes", unfollowed := true, recurses := true, apart := false, narrowed := true }
def DeductionTakesUptoSaid : Prop := deductionTakesUptoRow.holds Try.pinned (OpenSpec.upto deductionTakesSpec)

/-- 'payrolllaw27.DeductionStops', WHERE WHAT IT READS IS OF BULK AT MOST 1048576: true; the input reads as it did. -/
def deductionStopsUptoRow : OpenClaim := { program := "ytcpkdpflkjjlcaa", sum := "0fbf932a0cdaaadb3965fbb5ec262b98ff49a28f835e58ba3bc5cbbb2b8ed166", func := "payroll/payrolllaw27.DeductionStops", spec := "deductionStops", unfollowed := true, recurses := true, apart := false, narrowed := true }
def DeductionStopsUptoSaid : Prop := deductionStopsUptoRow.holds Try.pinned (OpenSpec.upto deductionStopsSpec)

/-- 'payrolllaw27.DeductionCaps', WHERE WHAT IT READS IS OF BULK AT MOST 1048576: true; the input reads as it did. -/
def deductionCapsUptoRow : OpenClaim := { program := "ytcpkdpflkjjlcaa", sum := "0fbf932a0cdaaadb3965fbb5ec262b98ff49a28f835e58ba3bc5cbbb2b8ed166", func := "payroll/payrolllaw27.DeductionCaps", spec := "deductionCaps", unfollowed := true, recurses := true, apart := false, narrowed := true }
def DeductionCapsUptoSaid : Prop := deductionCapsUptoRow.holds Try.pinned (OpenSpec.upto deductionCapsSpec)

/-- 'payrolllaw27.DeductionAdds', WHERE WHAT IT READS IS OF BULK AT MOST 1048576: true; the input reads as it did. -/
def deductionAddsUptoRow : OpenClaim := { program := "ytcpkdpflkjjlcaa", sum := "0fbf932a0cdaaadb3965fbb5ec262b98ff49a28f835e58ba3bc5cbbb2b8ed166", func := "payroll/payrolllaw27.DeductionAdds", spec := "deductionAdds", unfollowed := true, recurses := true, apart := false, narrowed := true }
def DeductionAddsUptoSaid : Prop := deductionAddsUptoRow.holds Try.pinned (OpenSpec.upto deductionAddsSpec)

end Rows
end Go.Proofs.Ytcpkdpflkjjlcaa
