/-
  No cell of these rows narrows 'for every input' (looked for: loops, veiled, ifaces, maps, wideKeys, modest, calm, conditions, laid).
  DERIVED. THE GIVEN ROWS OF THIS SEAT. 12 by the template 'for every input the law returns true; each argument reads behind the call as it read before'; 0 by the template 'total and deterministic' (their statements: YtlhkojcmcmkmaaaGreatTotals.lean).
  GIVEN WITH THE SEED: the statements are not yours to turn. If you find one false, say at which input.
  Laid BY PROGRAM, IN A SANDBOX (cutbox-rows.mjs): the forced cells as the released guide's own fill.sh prints them over the translation 3a852fbb77005bf6… (all of the seat's roots in one cut). By AI agents, Wed Nov 11 2026. No macro, syntax, notation, axiom, sorry.
-/
import Derived.Test.YtlhkojcmcmkmaaaGreatChecked
import GoSem.Claim
import GoSem.ClaimJoined
import GoSem.ClaimMapViews
import Derived.JoinedTies
import Derived.KernelRfl
namespace Go.Proofs.YtlhkojcmcmkmaaaGreat
/- THE CELL 'sum', in the pinned program and in every row, IS THE sha256 OF THE DUMP (.gsa) THAT YtlhkojcmcmkmaaaGreatProg.lean LOADS. Nothing in Lean hashes anything: it is a label: what it is worth is what the hold of that sum in a sandbox is worth. -/
noncomputable def Tryz.pinned : Pinned := { name := "ytlhkojcmcmkmaaagreat", sum := "3a852fbb77005bf6e6712c851c9ea04d62f7ae8bc4ed151022c50b343ce19771", checked := Tryz.checked }
namespace Rows
def none {H : Type} : Left H := { results := [], args := [] }

/-- 'payrolllaw32.NetLimits': WHATEVER THE INPUT: true; the input reads as it did. -/
def netLimitsSpec : ChangeSpec := { name := "netLimits", fn := fun _ => fun
  | [d] => { results := [.lit (.bool true)], args := [d] }
  | _ => none }
def netLimitsRow : OpenClaim := { program := "ytlhkojcmcmkmaaagreat", sum := "3a852fbb77005bf6e6712c851c9ea04d62f7ae8bc4ed151022c50b343ce19771", func := "payroll/payrolllaw32.NetLimits", spec := "netLimits", unfollowed := true, recurses := true, apart := false }
def NetLimitsSaid : Prop := netLimitsRow.holds Tryz.pinned (OpenSpec.ofChange netLimitsSpec)

/-- ITS FALSE NEIGHBOUR: 'it returns false'. Refute it at one input. -/
def netLimitsWrong : ChangeSpec := { name := "netLimits", fn := fun _ => fun
  | [d] => { results := [.lit (.bool false)], args := [d] }
  | _ => none }
def NetLimitsWrongFalsely : Prop := netLimitsRow.holds Tryz.pinned (OpenSpec.ofChange netLimitsWrong)

/-- 'payrolllaw32.NetComputes': WHATEVER THE INPUT: true; the input reads as it did. -/
def netComputesSpec : ChangeSpec := { name := "netComputes", fn := fun _ => fun
  | [d] => { results := [.lit (.bool true)], args := [d] }
  | _ => none }
def netComputesRow : OpenClaim := { program := "ytlhkojcmcmkmaaagreat", sum := "3a852fbb77005bf6e6712c851c9ea04d62f7ae8bc4ed151022c50b343ce19771", func := "payroll/payrolllaw32.NetComputes", spec := "netComputes", unfollowed := true, recurses := true, apart := false }
def NetComputesSaid : Prop := netComputesRow.holds Tryz.pinned (OpenSpec.ofChange netComputesSpec)

/-- ITS FALSE NEIGHBOUR: 'it returns false'. Refute it at one input. -/
def netComputesWrong : ChangeSpec := { name := "netComputes", fn := fun _ => fun
  | [d] => { results := [.lit (.bool false)], args := [d] }
  | _ => none }
def NetComputesWrongFalsely : Prop := netComputesRow.holds Tryz.pinned (OpenSpec.ofChange netComputesWrong)

/-- 'payrolllaw32.NetBalances': WHATEVER THE INPUT: true; the input reads as it did. -/
def netBalancesSpec : ChangeSpec := { name := "netBalances", fn := fun _ => fun
  | [d] => { results := [.lit (.bool true)], args := [d] }
  | _ => none }
def netBalancesRow : OpenClaim := { program := "ytlhkojcmcmkmaaagreat", sum := "3a852fbb77005bf6e6712c851c9ea04d62f7ae8bc4ed151022c50b343ce19771", func := "payroll/payrolllaw32.NetBalances", spec := "netBalances", unfollowed := true, recurses := true, apart := false }
def NetBalancesSaid : Prop := netBalancesRow.holds Tryz.pinned (OpenSpec.ofChange netBalancesSpec)

/-- ITS FALSE NEIGHBOUR: 'it returns false'. Refute it at one input. -/
def netBalancesWrong : ChangeSpec := { name := "netBalances", fn := fun _ => fun
  | [d] => { results := [.lit (.bool false)], args := [d] }
  | _ => none }
def NetBalancesWrongFalsely : Prop := netBalancesRow.holds Tryz.pinned (OpenSpec.ofChange netBalancesWrong)

/-- 'payrolllaw32.NetProtects': WHATEVER THE INPUT: true; the input reads as it did. -/
def netProtectsSpec : ChangeSpec := { name := "netProtects", fn := fun _ => fun
  | [d] => { results := [.lit (.bool true)], args := [d] }
  | _ => none }
def netProtectsRow : OpenClaim := { program := "ytlhkojcmcmkmaaagreat", sum := "3a852fbb77005bf6e6712c851c9ea04d62f7ae8bc4ed151022c50b343ce19771", func := "payroll/payrolllaw32.NetProtects", spec := "netProtects", unfollowed := true, recurses := true, apart := false }
def NetProtectsSaid : Prop := netProtectsRow.holds Tryz.pinned (OpenSpec.ofChange netProtectsSpec)

/-- ITS FALSE NEIGHBOUR: 'it returns false'. Refute it at one input. -/
def netProtectsWrong : ChangeSpec := { name := "netProtects", fn := fun _ => fun
  | [d] => { results := [.lit (.bool false)], args := [d] }
  | _ => none }
def NetProtectsWrongFalsely : Prop := netProtectsRow.holds Tryz.pinned (OpenSpec.ofChange netProtectsWrong)

/-- 'payrolllaw32.NetOrder': WHATEVER THE INPUT: true; the input reads as it did. -/
def netOrderSpec : ChangeSpec := { name := "netOrder", fn := fun _ => fun
  | [d1, d2, d3] => { results := [.lit (.bool true)], args := [d1, d2, d3] }
  | _ => none }
def netOrderRow : OpenClaim := { program := "ytlhkojcmcmkmaaagreat", sum := "3a852fbb77005bf6e6712c851c9ea04d62f7ae8bc4ed151022c50b343ce19771", func := "payroll/payrolllaw32.NetOrder", spec := "netOrder", unfollowed := true, recurses := true, apart := false }
def NetOrderSaid : Prop := netOrderRow.holds Tryz.pinned (OpenSpec.ofChange netOrderSpec)

/-- ITS FALSE NEIGHBOUR: 'it returns false'. Refute it at one input. -/
def netOrderWrong : ChangeSpec := { name := "netOrder", fn := fun _ => fun
  | [d1, d2, d3] => { results := [.lit (.bool false)], args := [d1, d2, d3] }
  | _ => none }
def NetOrderWrongFalsely : Prop := netOrderRow.holds Tryz.pinned (OpenSpec.ofChange netOrderWrong)

/-- 'payrolllaw32.NetKeeps': WHATEVER THE INPUT: true; the input reads as it did. -/
def netKeepsSpec : ChangeSpec := { name := "netKeeps", fn := fun _ => fun
  | [d] => { results := [.lit (.bool true)], args := [d] }
  | _ => none }
def netKeepsRow : OpenClaim := { program := "ytlhkojcmcmkmaaagreat", sum := "3a852fbb77005bf6e6712c851c9ea04d62f7ae8bc4ed151022c50b343ce19771", func := "payroll/payrolllaw32.NetKeeps", spec := "netKeeps", unfollowed := true, recurses := true, apart := false }
def NetKeepsSaid : Prop := netKeepsRow.holds Tryz.pinned (OpenSpec.ofChange netKeepsSpec)

/-- ITS FALSE NEIGHBOUR: 'it returns false'. Refute it at one input. -/
def netKeepsWrong : ChangeSpec := { name := "netKeeps", fn := fun _ => fun
  | [d] => { results := [.lit (.bool false)], args := [d] }
  | _ => none }
def NetKeepsWrongFalsely : Prop := netKeepsRow.holds Tryz.pinned (OpenSpec.ofChange netKeepsWrong)

/-- 'payrolllaw32.NetYear': WHATEVER THE INPUT: true; the input reads as it did. -/
def netYearSpec : ChangeSpec := { name := "netYear", fn := fun _ => fun
  | [d] => { results := [.lit (.bool true)], args := [d] }
  | _ => none }
def netYearRow : OpenClaim := { program := "ytlhkojcmcmkmaaagreat", sum := "3a852fbb77005bf6e6712c851c9ea04d62f7ae8bc4ed151022c50b343ce19771", func := "payroll/payrolllaw32.NetYear", spec := "netYear", unfollowed := true, recurses := true, apart := false }
def NetYearSaid : Prop := netYearRow.holds Tryz.pinned (OpenSpec.ofChange netYearSpec)

/-- ITS FALSE NEIGHBOUR: 'it returns false'. Refute it at one input. -/
def netYearWrong : ChangeSpec := { name := "netYear", fn := fun _ => fun
  | [d] => { results := [.lit (.bool false)], args := [d] }
  | _ => none }
def NetYearWrongFalsely : Prop := netYearRow.holds Tryz.pinned (OpenSpec.ofChange netYearWrong)

/-- 'payrolllaw33.GrossupLegal': WHATEVER THE INPUT: true; the input reads as it did. -/
def grossupLegalSpec : ChangeSpec := { name := "grossupLegal", fn := fun _ => fun
  | [d1, d2, d3] => { results := [.lit (.bool true)], args := [d1, d2, d3] }
  | _ => none }
def grossupLegalRow : OpenClaim := { program := "ytlhkojcmcmkmaaagreat", sum := "3a852fbb77005bf6e6712c851c9ea04d62f7ae8bc4ed151022c50b343ce19771", func := "payroll/payrolllaw33.GrossupLegal", spec := "grossupLegal", unfollowed := true, recurses := true, apart := false }
def GrossupLegalSaid : Prop := grossupLegalRow.holds Tryz.pinned (OpenSpec.ofChange grossupLegalSpec)

/-- ITS FALSE NEIGHBOUR: 'it returns false'. Refute it at one input. -/
def grossupLegalWrong : ChangeSpec := { name := "grossupLegal", fn := fun _ => fun
  | [d1, d2, d3] => { results := [.lit (.bool false)], args := [d1, d2, d3] }
  | _ => none }
def GrossupLegalWrongFalsely : Prop := grossupLegalRow.holds Tryz.pinned (OpenSpec.ofChange grossupLegalWrong)

/-- 'payrolllaw33.GrossupSolves': WHATEVER THE INPUT: true; the input reads as it did. -/
def grossupSolvesSpec : ChangeSpec := { name := "grossupSolves", fn := fun _ => fun
  | [d1, d2] => { results := [.lit (.bool true)], args := [d1, d2] }
  | _ => none }
def grossupSolvesRow : OpenClaim := { program := "ytlhkojcmcmkmaaagreat", sum := "3a852fbb77005bf6e6712c851c9ea04d62f7ae8bc4ed151022c50b343ce19771", func := "payroll/payrolllaw33.GrossupSolves", spec := "grossupSolves", unfollowed := true, recurses := true, apart := false }
def GrossupSolvesSaid : Prop := grossupSolvesRow.holds Tryz.pinned (OpenSpec.ofChange grossupSolvesSpec)

/-- ITS FALSE NEIGHBOUR: 'it returns false'. Refute it at one input. -/
def grossupSolvesWrong : ChangeSpec := { name := "grossupSolves", fn := fun _ => fun
  | [d1, d2] => { results := [.lit (.bool false)], args := [d1, d2] }
  | _ => none }
def GrossupSolvesWrongFalsely : Prop := grossupSolvesRow.holds Tryz.pinned (OpenSpec.ofChange grossupSolvesWrong)

/-- 'payrolllaw33.GrossupLeast': WHATEVER THE INPUT: true; the input reads as it did. -/
def grossupLeastSpec : ChangeSpec := { name := "grossupLeast", fn := fun _ => fun
  | [d1, d2] => { results := [.lit (.bool true)], args := [d1, d2] }
  | _ => none }
def grossupLeastRow : OpenClaim := { program := "ytlhkojcmcmkmaaagreat", sum := "3a852fbb77005bf6e6712c851c9ea04d62f7ae8bc4ed151022c50b343ce19771", func := "payroll/payrolllaw33.GrossupLeast", spec := "grossupLeast", unfollowed := true, recurses := true, apart := false }
def GrossupLeastSaid : Prop := grossupLeastRow.holds Tryz.pinned (OpenSpec.ofChange grossupLeastSpec)

/-- ITS FALSE NEIGHBOUR: 'it returns false'. Refute it at one input. -/
def grossupLeastWrong : ChangeSpec := { name := "grossupLeast", fn := fun _ => fun
  | [d1, d2] => { results := [.lit (.bool false)], args := [d1, d2] }
  | _ => none }
def GrossupLeastWrongFalsely : Prop := grossupLeastRow.holds Tryz.pinned (OpenSpec.ofChange grossupLeastWrong)

/-- 'payrolllaw33.GrossupGrows': WHATEVER THE INPUT: true; the input reads as it did. -/
def grossupGrowsSpec : ChangeSpec := { name := "grossupGrows", fn := fun _ => fun
  | [d1, d2] => { results := [.lit (.bool true)], args := [d1, d2] }
  | _ => none }
def grossupGrowsRow : OpenClaim := { program := "ytlhkojcmcmkmaaagreat", sum := "3a852fbb77005bf6e6712c851c9ea04d62f7ae8bc4ed151022c50b343ce19771", func := "payroll/payrolllaw33.GrossupGrows", spec := "grossupGrows", unfollowed := true, recurses := true, apart := false }
def GrossupGrowsSaid : Prop := grossupGrowsRow.holds Tryz.pinned (OpenSpec.ofChange grossupGrowsSpec)

/-- ITS FALSE NEIGHBOUR: 'it returns false'. Refute it at one input. -/
def grossupGrowsWrong : ChangeSpec := { name := "grossupGrows", fn := fun _ => fun
  | [d1, d2] => { results := [.lit (.bool false)], args := [d1, d2] }
  | _ => none }
def GrossupGrowsWrongFalsely : Prop := grossupGrowsRow.holds Tryz.pinned (OpenSpec.ofChange grossupGrowsWrong)

/-- 'payrolllaw33.GrossupErrors': WHATEVER THE INPUT: true; the input reads as it did. -/
def grossupErrorsSpec : ChangeSpec := { name := "grossupErrors", fn := fun _ => fun
  | [d1, d2, d3, d4] => { results := [.lit (.bool true)], args := [d1, d2, d3, d4] }
  | _ => none }
def grossupErrorsRow : OpenClaim := { program := "ytlhkojcmcmkmaaagreat", sum := "3a852fbb77005bf6e6712c851c9ea04d62f7ae8bc4ed151022c50b343ce19771", func := "payroll/payrolllaw33.GrossupErrors", spec := "grossupErrors", unfollowed := true, recurses := true, apart := false }
def GrossupErrorsSaid : Prop := grossupErrorsRow.holds Tryz.pinned (OpenSpec.ofChange grossupErrorsSpec)

/-- ITS FALSE NEIGHBOUR: 'it returns false'. Refute it at one input. -/
def grossupErrorsWrong : ChangeSpec := { name := "grossupErrors", fn := fun _ => fun
  | [d1, d2, d3, d4] => { results := [.lit (.bool false)], args := [d1, d2, d3, d4] }
  | _ => none }
def GrossupErrorsWrongFalsely : Prop := grossupErrorsRow.holds Tryz.pinned (OpenSpec.ofChange grossupErrorsWrong)

/- THE SECOND FORM. 'bulk': how many values and letters a reading holds, each counted each time it is reached (what is shared counts as often as it is met; a slice's spare places count too). A statement '..UptoSaid' is the law's where the arguments, and the package variables that the reading takes, are together of bulk at most 1048576: NARROWER than '..Said'. Prove '..Said' where nothing that the law and all that it calls make is longer than what came in: it says more and counts as full. Else prove '..UptoSaid'. A law counts once. -/
mutual
def uptoBulk {H : Type} : DataW H → Nat
  | .lit (.string bytes) => bytes.length + 1
  | .lit _ => 1
  | .nil => 1
  | .ptr d => uptoBulk d + 1
  | .slice elems spare => uptoBulkAll elems + uptoBulkAll spare + 1
  | .agg parts => uptoBulkAll parts + 1
  | .iface _ d => uptoBulk d + 1
  | .map entries => uptoBulkEntries entries + 1
  | .held _ => 1
def uptoBulkAll {H : Type} : List (DataW H) → Nat
  | [] => 0
  | d :: r => uptoBulk d + uptoBulkAll r
def uptoBulkEntries {H : Type} : List (Lit × DataW H) → Nat
  | [] => 0
  | x :: r => uptoBulkEntry x + uptoBulkEntries r
def uptoBulkEntry {H : Type} : Lit × DataW H → Nat
  | (.string bytes, d) => bytes.length + uptoBulk d + 1
  | (_, d) => uptoBulk d + 1
 end
def uptoSmall : (H : Type) → List (DataW H) → Bool := fun _ ds => decide (uptoBulkAll ds ≤ 1048576)
def OpenSpec.upto (s : _root_.Go.ChangeSpec) : _root_.Go.OpenSpec := { _root_.Go.OpenSpec.ofChange s with cond := some uptoSmall }

/-- 'payrolllaw32.NetLimits', WHERE WHAT IT READS IS OF BULK AT MOST 1048576: true; the input reads as it did. -/
def netLimitsUptoRow : OpenClaim := { program := "ytlhkojcmcmkmaaagreat", sum := "3a852fbb77005bf6e6712c851c9ea04d62f7ae8bc4ed151022c50b343ce19771", func := "payroll/payrolllaw32.NetLimits", spec := "netLimits", unfollowed := true, recurses := true, apart := false, narrowed := true }
def NetLimitsUptoSaid : Prop := netLimitsUptoRow.holds Tryz.pinned (OpenSpec.upto netLimitsSpec)

/-- 'payrolllaw32.NetComputes', WHERE WHAT IT READS IS OF BULK AT MOST 1048576: true; the input reads as it did. -/
def netComputesUptoRow : OpenClaim := { program := "ytlhkojcmcmkmaaagreat", sum := "3a852fbb77005bf6e6712c851c9ea04d62f7ae8bc4ed151022c50b343ce19771", func := "payroll/payrolllaw32.NetComputes", spec := "netComputes", unfollowed := true, recurses := true, apart := false, narrowed := true }
def NetComputesUptoSaid : Prop := netComputesUptoRow.holds Tryz.pinned (OpenSpec.upto netComputesSpec)

/-- 'payrolllaw32.NetBalances', WHERE WHAT IT READS IS OF BULK AT MOST 1048576: true; the input reads as it did. -/
def netBalancesUptoRow : OpenClaim := { program := "ytlhkojcmcmkmaaagreat", sum := "3a852fbb77005bf6e6712c851c9ea04d62f7ae8bc4ed151022c50b343ce19771", func := "payroll/payrolllaw32.NetBalances", spec := "netBalances", unfollowed := true, recurses := true, apart := false, narrowed := true }
def NetBalancesUptoSaid : Prop := netBalancesUptoRow.holds Tryz.pinned (OpenSpec.upto netBalancesSpec)

/-- 'payrolllaw32.NetProtects', WHERE WHAT IT READS IS OF BULK AT MOST 1048576: true; the input reads as it did. -/
def netProtectsUptoRow : OpenClaim := { program := "ytlhkojcmcmkmaaagreat", sum := "3a852fbb77005bf6e6712c851c9ea04d62f7ae8bc4ed151022c50b343ce19771", func := "payroll/payrolllaw32.NetProtects", spec := "netProtects", unfollowed := true, recurses := true, apart := false, narrowed := true }
def NetProtectsUptoSaid : Prop := netProtectsUptoRow.holds Tryz.pinned (OpenSpec.upto netProtectsSpec)

/-- 'payrolllaw32.NetOrder', WHERE WHAT IT READS IS OF BULK AT MOST 1048576: true; the input reads as it did. -/
def netOrderUptoRow : OpenClaim := { program := "ytlhkojcmcmkmaaagreat", sum := "3a852fbb77005bf6e6712c851c9ea04d62f7ae8bc4ed151022c50b343ce19771", func := "payroll/payrolllaw32.NetOrder", spec := "netOrder", unfollowed := true, recurses := true, apart := false, narrowed := true }
def NetOrderUptoSaid : Prop := netOrderUptoRow.holds Tryz.pinned (OpenSpec.upto netOrderSpec)

/-- 'payrolllaw32.NetKeeps', WHERE WHAT IT READS IS OF BULK AT MOST 1048576: true; the input reads as it did. -/
def netKeepsUptoRow : OpenClaim := { program := "ytlhkojcmcmkmaaagreat", sum := "3a852fbb77005bf6e6712c851c9ea04d62f7ae8bc4ed151022c50b343ce19771", func := "payroll/payrolllaw32.NetKeeps", spec := "netKeeps", unfollowed := true, recurses := true, apart := false, narrowed := true }
def NetKeepsUptoSaid : Prop := netKeepsUptoRow.holds Tryz.pinned (OpenSpec.upto netKeepsSpec)

/-- 'payrolllaw32.NetYear', WHERE WHAT IT READS IS OF BULK AT MOST 1048576: true; the input reads as it did. -/
def netYearUptoRow : OpenClaim := { program := "ytlhkojcmcmkmaaagreat", sum := "3a852fbb77005bf6e6712c851c9ea04d62f7ae8bc4ed151022c50b343ce19771", func := "payroll/payrolllaw32.NetYear", spec := "netYear", unfollowed := true, recurses := true, apart := false, narrowed := true }
def NetYearUptoSaid : Prop := netYearUptoRow.holds Tryz.pinned (OpenSpec.upto netYearSpec)

/-- 'payrolllaw33.GrossupLegal', WHERE WHAT IT READS IS OF BULK AT MOST 1048576: true; the input reads as it did. -/
def grossupLegalUptoRow : OpenClaim := { program := "ytlhkojcmcmkmaaagreat", sum := "3a852fbb77005bf6e6712c851c9ea04d62f7ae8bc4ed151022c50b343ce19771", func := "payroll/payrolllaw33.GrossupLegal", spec := "grossupLegal", unfollowed := true, recurses := true, apart := false, narrowed := true }
def GrossupLegalUptoSaid : Prop := grossupLegalUptoRow.holds Tryz.pinned (OpenSpec.upto grossupLegalSpec)

/-- 'payrolllaw33.GrossupSolves', WHERE WHAT IT READS IS OF BULK AT MOST 1048576: true; the input reads as it did. -/
def grossupSolvesUptoRow : OpenClaim := { program := "ytlhkojcmcmkmaaagreat", sum := "3a852fbb77005bf6e6712c851c9ea04d62f7ae8bc4ed151022c50b343ce19771", func := "payroll/payrolllaw33.GrossupSolves", spec := "grossupSolves", unfollowed := true, recurses := true, apart := false, narrowed := true }
def GrossupSolvesUptoSaid : Prop := grossupSolvesUptoRow.holds Tryz.pinned (OpenSpec.upto grossupSolvesSpec)

/-- 'payrolllaw33.GrossupLeast', WHERE WHAT IT READS IS OF BULK AT MOST 1048576: true; the input reads as it did. -/
def grossupLeastUptoRow : OpenClaim := { program := "ytlhkojcmcmkmaaagreat", sum := "3a852fbb77005bf6e6712c851c9ea04d62f7ae8bc4ed151022c50b343ce19771", func := "payroll/payrolllaw33.GrossupLeast", spec := "grossupLeast", unfollowed := true, recurses := true, apart := false, narrowed := true }
def GrossupLeastUptoSaid : Prop := grossupLeastUptoRow.holds Tryz.pinned (OpenSpec.upto grossupLeastSpec)

/-- 'payrolllaw33.GrossupGrows', WHERE WHAT IT READS IS OF BULK AT MOST 1048576: true; the input reads as it did. -/
def grossupGrowsUptoRow : OpenClaim := { program := "ytlhkojcmcmkmaaagreat", sum := "3a852fbb77005bf6e6712c851c9ea04d62f7ae8bc4ed151022c50b343ce19771", func := "payroll/payrolllaw33.GrossupGrows", spec := "grossupGrows", unfollowed := true, recurses := true, apart := false, narrowed := true }
def GrossupGrowsUptoSaid : Prop := grossupGrowsUptoRow.holds Tryz.pinned (OpenSpec.upto grossupGrowsSpec)

/-- 'payrolllaw33.GrossupErrors', WHERE WHAT IT READS IS OF BULK AT MOST 1048576: true; the input reads as it did. -/
def grossupErrorsUptoRow : OpenClaim := { program := "ytlhkojcmcmkmaaagreat", sum := "3a852fbb77005bf6e6712c851c9ea04d62f7ae8bc4ed151022c50b343ce19771", func := "payroll/payrolllaw33.GrossupErrors", spec := "grossupErrors", unfollowed := true, recurses := true, apart := false, narrowed := true }
def GrossupErrorsUptoSaid : Prop := grossupErrorsUptoRow.holds Tryz.pinned (OpenSpec.upto grossupErrorsSpec)

end Rows
end Go.Proofs.YtlhkojcmcmkmaaaGreat
