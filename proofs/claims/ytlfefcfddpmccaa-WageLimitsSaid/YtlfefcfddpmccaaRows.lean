/-
  No cell of these rows narrows 'for every input' (looked for: loops, veiled, ifaces, maps, wideKeys, modest, calm, conditions, laid).
  DERIVED. THE GIVEN ROWS OF THIS SEAT. 7 by the template 'for every input the law returns true; each argument reads behind the call as it read before'; 0 by the template 'total and deterministic' (their statements: YtlfefcfddpmccaaTotals.lean).
  GIVEN WITH THE SEED: the statements are not yours to turn. If you find one false, say at which input.
  Laid BY PROGRAM, IN A SANDBOX (cutbox-rows.mjs): the forced cells as the released guide's own fill.sh prints them over the translation c65069fc1c41589a… (all of the seat's roots in one cut). By AI agents, Wed Nov 11 2026. No macro, syntax, notation, axiom, sorry.
-/
import Derived.Test.YtlfefcfddpmccaaChecked
import GoSem.Claim
import GoSem.ClaimJoined
import GoSem.ClaimMapViews
import Derived.JoinedTies
import Derived.KernelRfl
namespace Go.Proofs.Ytlfefcfddpmccaa
/- THE CELL 'sum', in the pinned program and in every row, IS THE sha256 OF THE DUMP (.gsa) THAT YtlfefcfddpmccaaProg.lean LOADS. Nothing in Lean hashes anything: it is a label: what it is worth is what the hold of that sum in a sandbox is worth. -/
noncomputable def Try.pinned : Pinned := { name := "ytlfefcfddpmccaa", sum := "c65069fc1c41589a12d9c9bb0d29254d7e610975753c7575e3b5e2373629e0fa", checked := Try.checked }
namespace Rows
def none {H : Type} : Left H := { results := [], args := [] }

/-- 'payrolllaw26.WageValid': WHATEVER THE INPUT: true; the input reads as it did. -/
def wageValidSpec : ChangeSpec := { name := "wageValid", fn := fun _ => fun
  | [d1, d2, d3, d4, d5] => { results := [.lit (.bool true)], args := [d1, d2, d3, d4, d5] }
  | _ => none }
def wageValidRow : OpenClaim := { program := "ytlfefcfddpmccaa", sum := "c65069fc1c41589a12d9c9bb0d29254d7e610975753c7575e3b5e2373629e0fa", func := "payroll/payrolllaw26.WageValid", spec := "wageValid", unfollowed := true, recurses := true, apart := false }
def WageValidSaid : Prop := wageValidRow.holds Try.pinned (OpenSpec.ofChange wageValidSpec)

/-- ITS FALSE NEIGHBOUR: 'it returns false'. Refute it at one input. -/
def wageValidWrong : ChangeSpec := { name := "wageValid", fn := fun _ => fun
  | [d1, d2, d3, d4, d5] => { results := [.lit (.bool false)], args := [d1, d2, d3, d4, d5] }
  | _ => none }
def WageValidWrongFalsely : Prop := wageValidRow.holds Try.pinned (OpenSpec.ofChange wageValidWrong)

/-- 'payrolllaw26.WageFinds': WHATEVER THE INPUT: true; the input reads as it did. -/
def wageFindsSpec : ChangeSpec := { name := "wageFinds", fn := fun _ => fun
  | [d1, d2, d3] => { results := [.lit (.bool true)], args := [d1, d2, d3] }
  | _ => none }
def wageFindsRow : OpenClaim := { program := "ytlfefcfddpmccaa", sum := "c65069fc1c41589a12d9c9bb0d29254d7e610975753c7575e3b5e2373629e0fa", func := "payroll/payrolllaw26.WageFinds", spec := "wageFinds", unfollowed := true, recurses := true, apart := false }
def WageFindsSaid : Prop := wageFindsRow.holds Try.pinned (OpenSpec.ofChange wageFindsSpec)

/-- ITS FALSE NEIGHBOUR: 'it returns false'. Refute it at one input. -/
def wageFindsWrong : ChangeSpec := { name := "wageFinds", fn := fun _ => fun
  | [d1, d2, d3] => { results := [.lit (.bool false)], args := [d1, d2, d3] }
  | _ => none }
def WageFindsWrongFalsely : Prop := wageFindsRow.holds Try.pinned (OpenSpec.ofChange wageFindsWrong)

/-- 'payrolllaw26.WageMerges': WHATEVER THE INPUT: true; the input reads as it did. -/
def wageMergesSpec : ChangeSpec := { name := "wageMerges", fn := fun _ => fun
  | [d1, d2] => { results := [.lit (.bool true)], args := [d1, d2] }
  | _ => none }
def wageMergesRow : OpenClaim := { program := "ytlfefcfddpmccaa", sum := "c65069fc1c41589a12d9c9bb0d29254d7e610975753c7575e3b5e2373629e0fa", func := "payroll/payrolllaw26.WageMerges", spec := "wageMerges", unfollowed := true, recurses := true, apart := false }
def WageMergesSaid : Prop := wageMergesRow.holds Try.pinned (OpenSpec.ofChange wageMergesSpec)

/-- ITS FALSE NEIGHBOUR: 'it returns false'. Refute it at one input. -/
def wageMergesWrong : ChangeSpec := { name := "wageMerges", fn := fun _ => fun
  | [d1, d2] => { results := [.lit (.bool false)], args := [d1, d2] }
  | _ => none }
def WageMergesWrongFalsely : Prop := wageMergesRow.holds Try.pinned (OpenSpec.ofChange wageMergesWrong)

/-- 'payrolllaw26.WageBases': WHATEVER THE INPUT: true; the input reads as it did. -/
def wageBasesSpec : ChangeSpec := { name := "wageBases", fn := fun _ => fun
  | [d1, d2, d3] => { results := [.lit (.bool true)], args := [d1, d2, d3] }
  | _ => none }
def wageBasesRow : OpenClaim := { program := "ytlfefcfddpmccaa", sum := "c65069fc1c41589a12d9c9bb0d29254d7e610975753c7575e3b5e2373629e0fa", func := "payroll/payrolllaw26.WageBases", spec := "wageBases", unfollowed := true, recurses := true, apart := false }
def WageBasesSaid : Prop := wageBasesRow.holds Try.pinned (OpenSpec.ofChange wageBasesSpec)

/-- ITS FALSE NEIGHBOUR: 'it returns false'. Refute it at one input. -/
def wageBasesWrong : ChangeSpec := { name := "wageBases", fn := fun _ => fun
  | [d1, d2, d3] => { results := [.lit (.bool false)], args := [d1, d2, d3] }
  | _ => none }
def WageBasesWrongFalsely : Prop := wageBasesRow.holds Try.pinned (OpenSpec.ofChange wageBasesWrong)

/-- 'payrolllaw26.WageLimits': WHATEVER THE INPUT: true; the input reads as it did. -/
def wageLimitsSpec : ChangeSpec := { name := "wageLimits", fn := fun _ => fun
  | [d1, d2] => { results := [.lit (.bool true)], args := [d1, d2] }
  | _ => none }
def wageLimitsRow : OpenClaim := { program := "ytlfefcfddpmccaa", sum := "c65069fc1c41589a12d9c9bb0d29254d7e610975753c7575e3b5e2373629e0fa", func := "payroll/payrolllaw26.WageLimits", spec := "wageLimits", unfollowed := true, recurses := true, apart := false }
def WageLimitsSaid : Prop := wageLimitsRow.holds Try.pinned (OpenSpec.ofChange wageLimitsSpec)

/-- ITS FALSE NEIGHBOUR: 'it returns false'. Refute it at one input. -/
def wageLimitsWrong : ChangeSpec := { name := "wageLimits", fn := fun _ => fun
  | [d1, d2] => { results := [.lit (.bool false)], args := [d1, d2] }
  | _ => none }
def WageLimitsWrongFalsely : Prop := wageLimitsRow.holds Try.pinned (OpenSpec.ofChange wageLimitsWrong)

/-- 'payrolllaw26.WageAdds': WHATEVER THE INPUT: true; the input reads as it did. -/
def wageAddsSpec : ChangeSpec := { name := "wageAdds", fn := fun _ => fun
  | [d] => { results := [.lit (.bool true)], args := [d] }
  | _ => none }
def wageAddsRow : OpenClaim := { program := "ytlfefcfddpmccaa", sum := "c65069fc1c41589a12d9c9bb0d29254d7e610975753c7575e3b5e2373629e0fa", func := "payroll/payrolllaw26.WageAdds", spec := "wageAdds", unfollowed := true, recurses := true, apart := false }
def WageAddsSaid : Prop := wageAddsRow.holds Try.pinned (OpenSpec.ofChange wageAddsSpec)

/-- ITS FALSE NEIGHBOUR: 'it returns false'. Refute it at one input. -/
def wageAddsWrong : ChangeSpec := { name := "wageAdds", fn := fun _ => fun
  | [d] => { results := [.lit (.bool false)], args := [d] }
  | _ => none }
def WageAddsWrongFalsely : Prop := wageAddsRow.holds Try.pinned (OpenSpec.ofChange wageAddsWrong)

/-- 'payrolllaw26.WageSubtracts': WHATEVER THE INPUT: true; the input reads as it did. -/
def wageSubtractsSpec : ChangeSpec := { name := "wageSubtracts", fn := fun _ => fun
  | [d1, d2] => { results := [.lit (.bool true)], args := [d1, d2] }
  | _ => none }
def wageSubtractsRow : OpenClaim := { program := "ytlfefcfddpmccaa", sum := "c65069fc1c41589a12d9c9bb0d29254d7e610975753c7575e3b5e2373629e0fa", func := "payroll/payrolllaw26.WageSubtracts", spec := "wageSubtracts", unfollowed := true, recurses := true, apart := false }
def WageSubtractsSaid : Prop := wageSubtractsRow.holds Try.pinned (OpenSpec.ofChange wageSubtractsSpec)

/-- ITS FALSE NEIGHBOUR: 'it returns false'. Refute it at one input. -/
def wageSubtractsWrong : ChangeSpec := { name := "wageSubtracts", fn := fun _ => fun
  | [d1, d2] => { results := [.lit (.bool false)], args := [d1, d2] }
  | _ => none }
def WageSubtractsWrongFalsely : Prop := wageSubtractsRow.holds Try.pinned (OpenSpec.ofChange wageSubtractsWrong)

/- THE SECOND FORM. 'bulk': how many values and letters a reading holds, each counted each time it is reached (what is shared counts as often as it is met; a slice's spare places count too). A statement '..UptoSaid' is the law's where the arguments, and the package variables that the reading takes, are together of bulk at most 1048576: NARROWER than '..Said'. Prove '..Said' where nothing that the law and all that it calls make is longer than what came in: it says more and counts as full. Else prove '..UptoSaid'. A law counts once. -/
mutual
def uptoBulk {H : Type} : DataW H → Nat
  | .lit (.string bytes) => bytes.length + 1
  | .lit _ => 1
  | .nil => 1
  | .ptr d => uptoBulk d + 1
  | .slice elems spare => uptoBulkAll elems + uptoBulkAll spare + 1
  | .agg parts => uptoBulkAll parts + 1
  | .iface _ d => uptoBulk d + 1
  | .map entries => uptoBulkEntries entries + 1
  | .held _ => 1
def uptoBulkAll {H : Type} : List (DataW H) → Nat
  | [] => 0
  | d :: r => uptoBulk d + uptoBulkAll r
def uptoBulkEntries {H : Type} : List (Lit × DataW H) → Nat
  | [] => 0
  | x :: r => uptoBulkEntry x + uptoBulkEntries r
def uptoBulkEntry {H : Type} : Lit × DataW H → Nat
  | (.string bytes, d) => bytes.length + uptoBulk d + 1
  | (_, d) => uptoBulk d + 1
 end
def uptoSmall : (H : Type) → List (DataW H) → Bool := fun _ ds => decide (uptoBulkAll ds ≤ 1048576)
def OpenSpec.upto (s : _root_.Go.ChangeSpec) : _root_.Go.OpenSpec := { _root_.Go.OpenSpec.ofChange s with cond := some uptoSmall }

/-- 'payrolllaw26.WageValid', WHERE WHAT IT READS IS OF BULK AT MOST 1048576: true; the input reads as it did. -/
def wageValidUptoRow : OpenClaim := { program := "ytlfefcfddpmccaa", sum := "c65069fc1c41589a12d9c9bb0d29254d7e610975753c7575e3b5e2373629e0fa", func := "payroll/payrolllaw26.WageValid", spec := "wageValid", unfollowed := true, recurses := true, apart := false, narrowed := true }
def WageValidUptoSaid : Prop := wageValidUptoRow.holds Try.pinned (OpenSpec.upto wageValidSpec)

/-- 'payrolllaw26.WageFinds', WHERE WHAT IT READS IS OF BULK AT MOST 1048576: true; the input reads as it did. -/
def wageFindsUptoRow : OpenClaim := { program := "ytlfefcfddpmccaa", sum := "c65069fc1c41589a12d9c9bb0d29254d7e610975753c7575e3b5e2373629e0fa", func := "payroll/payrolllaw26.WageFinds", spec := "wageFinds", unfollowed := true, recurses := true, apart := false, narrowed := true }
def WageFindsUptoSaid : Prop := wageFindsUptoRow.holds Try.pinned (OpenSpec.upto wageFindsSpec)

/-- 'payrolllaw26.WageMerges', WHERE WHAT IT READS IS OF BULK AT MOST 1048576: true; the input reads as it did. -/
def wageMergesUptoRow : OpenClaim := { program := "ytlfefcfddpmccaa", sum := "c65069fc1c41589a12d9c9bb0d29254d7e610975753c7575e3b5e2373629e0fa", func := "payroll/payrolllaw26.WageMerges", spec := "wageMerges", unfollowed := true, recurses := true, apart := false, narrowed := true }
def WageMergesUptoSaid : Prop := wageMergesUptoRow.holds Try.pinned (OpenSpec.upto wageMergesSpec)

/-- 'payrolllaw26.WageBases', WHERE WHAT IT READS IS OF BULK AT MOST 1048576: true; the input reads as it did. -/
def wageBasesUptoRow : OpenClaim := { program := "ytlfefcfddpmccaa", sum := "c65069fc1c41589a12d9c9bb0d29254d7e610975753c7575e3b5e2373629e0fa", func := "payroll/payrolllaw26.WageBases", spec := "wageBases", unfollowed := true, recurses := true, apart := false, narrowed := true }
def WageBasesUptoSaid : Prop := wageBasesUptoRow.holds Try.pinned (OpenSpec.upto wageBasesSpec)

/-- 'payrolllaw26.WageLimits', WHERE WHAT IT READS IS OF BULK AT MOST 1048576: true; the input reads as it did. -/
def wageLimitsUptoRow : OpenClaim := { program := "ytlfefcfddpmccaa", sum := "c65069fc1c41589a12d9c9bb0d29254d7e610975753c7575e3b5e2373629e0fa", func := "payroll/payrolllaw26.WageLimits", spec := "wageLimits", unfollowed := true, recurses := true, apart := false, narrowed := true }
def WageLimitsUptoSaid : Prop := wageLimitsUptoRow.holds Try.pinned (OpenSpec.upto wageLimitsSpec)

/-- 'payrolllaw26.WageAdds', WHERE WHAT IT READS IS OF BULK AT MOST 1048576: true; the input reads as it did. -/
def wageAddsUptoRow : OpenClaim := { program := "ytlfefcfddpmccaa", sum := "c65069fc1c41589a12d9c9bb0d29254d7e610975753c7575e3b5e2373629e0fa", func := "payroll/payrolllaw26.WageAdds", spec := "wageAdds", unfollowed := true, recurses := true, apart := false, narrowed := true }
def WageAddsUptoSaid : Prop := wageAddsUptoRow.holds Try.pinned (OpenSpec.upto wageAddsSpec)

/-- 'payrolllaw26.WageSubtracts', WHERE WHAT IT READS IS OF BULK AT MOST 1048576: true; the input reads as it did. -/
def wageSubtractsUptoRow : OpenClaim := { program := "ytlfefcfddpmccaa", sum := "c65069fc1c41589a12d9c9bb0d29254d7e610975753c7575e3b5e2373629e0fa", func := "payroll/payrolllaw26.WageSubtracts", spec := "wageSubtracts", unfollowed := true, recurses := true, apart := false, narrowed := true }
def WageSubtractsUptoSaid : Prop := wageSubtractsUptoRow.holds Try.pinned (OpenSpec.upto wageSubtractsSpec)

end Rows
end Go.Proofs.Ytlfefcfddpmccaa
