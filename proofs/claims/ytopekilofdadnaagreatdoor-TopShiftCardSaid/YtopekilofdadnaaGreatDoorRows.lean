/-
  NARROWER THAN 'FOR EVERY INPUT', by the rows' own cells (each row's printed sentence says how): TopShift: laid · TopMinutes: laid.
  DERIVED. THE GIVEN ROWS OF THIS SEAT. 2 by the template 'for every input the law returns true; each argument reads behind the call as it read before'; 0 by the template 'total and deterministic' (their statements: YtopekilofdadnaaGreatDoorTotals.lean).
  GIVEN WITH THE SEED: the statements are not yours to turn. If you find one false, say at which input.
  Laid BY PROGRAM, IN A SANDBOX (cutbox-rows.mjs): the forced cells as the released guide's own fill.sh prints them over the translation 82dcf13bf2c15eac… (all of the seat's roots in one cut). By AI agents, Wed Nov 11 2026. No macro, syntax, notation, axiom, sorry.
-/
import Derived.Test.YtopekilofdadnaaGreatDoorChecked
import GoSem.Claim
import GoSem.ClaimJoined
import GoSem.ClaimMapViews
import Derived.JoinedTies
import Derived.KernelRfl
namespace Go.Proofs.YtopekilofdadnaaGreatDoor
/- THE CELL 'sum', in the pinned program and in every row, IS THE sha256 OF THE DUMP (.gsa) THAT YtopekilofdadnaaGreatDoorProg.lean LOADS. Nothing in Lean hashes anything: it is a label: what it is worth is what the hold of that sum in a sandbox is worth. -/
noncomputable def Tryz.pinned : Pinned := { name := "ytopekilofdadnaagreatdoor", sum := "82dcf13bf2c15eac15da4c691b75fa3f330c17d76ad190531db35f31fb95ad52", checked := Tryz.checked }
namespace Rows
def none {H : Type} : Left H := { results := [], args := [] }

/- WHAT THE LISTED PACKAGE-LEVEL VARIABLES READ AS WHEN THE CALL BEGINS. Each datum BY PROGRAM (the guide's laid-datum.mjs) off the statement by which the dump's own 'gosem.cut.vars' lays the variable. In a bare row this is a premise. The card (YtopekilofdadnaaGreatDoorCards.lean) ties it to the program's text. -/
def laid_payroll_calendar_lengths {H : Type} : DataW H := .agg [.lit (.int .i64 31), .lit (.int .i64 28), .lit (.int .i64 31), .lit (.int .i64 30), .lit (.int .i64 31), .lit (.int .i64 30), .lit (.int .i64 31), .lit (.int .i64 31), .lit (.int .i64 30), .lit (.int .i64 31), .lit (.int .i64 30), .lit (.int .i64 31)]

/-- 'payrolltop.TopShift': WHATEVER THE INPUT: true; the input reads as it did. -/
def topShiftSpec : ChangeSpec := { name := "topShift", fn := fun _ => fun
  | [d1, d2, d3] => { results := [.lit (.bool true)], args := [d1, d2, d3] }
  | _ => none }
def topShiftRow : OpenClaim := { program := "ytopekilofdadnaagreatdoor", sum := "82dcf13bf2c15eac15da4c691b75fa3f330c17d76ad190531db35f31fb95ad52", func := "payroll/payrolltop.TopShift", spec := "topShift", unfollowed := true, recurses := true, named := ["payroll/calendar.lengths"], plainKeys := false, apart := false, laid := [("payroll/calendar.lengths", laid_payroll_calendar_lengths)] }
def TopShiftSaid : Prop := topShiftRow.holds Tryz.pinned (OpenSpec.ofChange topShiftSpec)

/-- ITS FALSE NEIGHBOUR: 'it returns false'. Refute it at one input. -/
def topShiftWrong : ChangeSpec := { name := "topShift", fn := fun _ => fun
  | [d1, d2, d3] => { results := [.lit (.bool false)], args := [d1, d2, d3] }
  | _ => none }
def TopShiftWrongFalsely : Prop := topShiftRow.holds Tryz.pinned (OpenSpec.ofChange topShiftWrong)

/-- 'payrolltop.TopMinutes': WHATEVER THE INPUT: true; the input reads as it did. -/
def topMinutesSpec : ChangeSpec := { name := "topMinutes", fn := fun _ => fun
  | [d] => { results := [.lit (.bool true)], args := [d] }
  | _ => none }
def topMinutesRow : OpenClaim := { program := "ytopekilofdadnaagreatdoor", sum := "82dcf13bf2c15eac15da4c691b75fa3f330c17d76ad190531db35f31fb95ad52", func := "payroll/payrolltop.TopMinutes", spec := "topMinutes", unfollowed := true, recurses := true, named := ["payroll/calendar.lengths"], plainKeys := false, apart := false, laid := [("payroll/calendar.lengths", laid_payroll_calendar_lengths)] }
def TopMinutesSaid : Prop := topMinutesRow.holds Tryz.pinned (OpenSpec.ofChange topMinutesSpec)

/-- ITS FALSE NEIGHBOUR: 'it returns false'. Refute it at one input. -/
def topMinutesWrong : ChangeSpec := { name := "topMinutes", fn := fun _ => fun
  | [d] => { results := [.lit (.bool false)], args := [d] }
  | _ => none }
def TopMinutesWrongFalsely : Prop := topMinutesRow.holds Tryz.pinned (OpenSpec.ofChange topMinutesWrong)

/- THE SECOND FORM. 'bulk': how many values and letters a reading holds, each counted each time it is reached (what is shared counts as often as it is met; a slice's spare places count too). A statement '..UptoSaid' is the law's where the arguments, and the package variables that the reading takes, are together of bulk at most 1048576: NARROWER than '..Said'. Prove '..Said' where nothing that the law and all that it calls make is longer than what came in: it says more and counts as full. Else prove '..UptoSaid'. A law counts once. -/
mutual
def uptoBulk {H : Type} : DataW H → Nat
  | .lit (.string bytes) => bytes.length + 1
  | .lit _ => 1
  | .nil => 1
  | .ptr d => uptoBulk d + 1
  | .slice elems spare => uptoBulkAll elems + uptoBulkAll spare + 1
  | .agg parts => uptoBulkAll parts + 1
  | .iface _ d => uptoBulk d + 1
  | .map entries => uptoBulkEntries entries + 1
  | .held _ => 1
def uptoBulkAll {H : Type} : List (DataW H) → Nat
  | [] => 0
  | d :: r => uptoBulk d + uptoBulkAll r
def uptoBulkEntries {H : Type} : List (Lit × DataW H) → Nat
  | [] => 0
  | x :: r => uptoBulkEntry x + uptoBulkEntries r
def uptoBulkEntry {H : Type} : Lit × DataW H → Nat
  | (.string bytes, d) => bytes.length + uptoBulk d + 1
  | (_, d) => uptoBulk d + 1
 end
def uptoSmall : (H : Type) → List (DataW H) → Bool := fun _ ds => decide (uptoBulkAll ds ≤ 1048576)
def OpenSpec.upto (s : _root_.Go.ChangeSpec) : _root_.Go.OpenSpec := { _root_.Go.OpenSpec.ofChange s with cond := some uptoSmall }

/-- 'payrolltop.TopShift', WHERE WHAT IT READS IS OF BULK AT MOST 1048576: true; the input reads as it did. -/
def topShiftUptoRow : OpenClaim := { program := "ytopekilofdadnaagreatdoor", sum := "82dcf13bf2c15eac15da4c691b75fa3f330c17d76ad190531db35f31fb95ad52", func := "payroll/payrolltop.TopShift", spec := "topShift", unfollowed := true, recurses := true, named := ["payroll/calendar.lengths"], plainKeys := false, apart := false, laid := [("payroll/calendar.lengths", laid_payroll_calendar_lengths)], narrowed := true }
def TopShiftUptoSaid : Prop := topShiftUptoRow.holds Tryz.pinned (OpenSpec.upto topShiftSpec)

/-- 'payrolltop.TopMinutes', WHERE WHAT IT READS IS OF BULK AT MOST 1048576: true; the input reads as it did. -/
def topMinutesUptoRow : OpenClaim := { program := "ytopekilofdadnaagreatdoor", sum := "82dcf13bf2c15eac15da4c691b75fa3f330c17d76ad190531db35f31fb95ad52", func := "payroll/payrolltop.TopMinutes", spec := "topMinutes", unfollowed := true, recurses := true, named := ["payroll/calendar.lengths"], plainKeys := false, apart := false, laid := [("payroll/calendar.lengths", laid_payroll_calendar_lengths)], narrowed := true }
def TopMinutesUptoSaid : Prop := topMinutesUptoRow.holds Tryz.pinned (OpenSpec.upto topMinutesSpec)

end Rows
end Go.Proofs.YtopekilofdadnaaGreatDoor
