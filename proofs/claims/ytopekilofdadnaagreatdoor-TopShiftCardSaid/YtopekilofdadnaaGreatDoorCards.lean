/-
  DERIVED. GIVEN WITH THE SEED: THE CARDS: each row of YtopekilofdadnaaGreatDoorRows.lean that lists a variable, with what it lists TIED to the program's text (the seventh form; the later family's looks); each row that meets fmt, with fmt's text TOLD by the authors' own Lean function (tested against real Go, not proved from fmt's source: count such statements apart). THE CARD IS WHAT COUNTS. Prove the row's statement (the work); the ties are given (YtopekilofdadnaaGreatDoorTie.lean); close each card by the builder's one call (the guide's Derived/Test/ToyasCard.lean, 'card_holds'). Laid BY PROGRAM, IN A SANDBOX (cutbox-door.mjs). By AI agents, Wed Nov 11 2026. No macro, syntax, notation, axiom, sorry.
-/
import Derived.Test.YtopekilofdadnaaGreatDoorRows
import GoSem.ClaimSeven
namespace Go.Proofs.YtopekilofdadnaaGreatDoor
namespace Rows

/-- THE TIED CARD OF 'payrolltop.TopShift'. -/
def topShiftCard : Claim7 := { stood := { row := topShiftRow, standIns := [], harness := (true, "ec9699fc99798246c30abdc2d7ad263a264f5dec0e95d44d1992351d51724cc3"), looks := false }, kinds := [], alts := [], laidByText := true, laidKinds := [.data], laidTests := true, laidLooks := .later }
def TopShiftCardSaid : Prop := Claim7.holds Tryz.pinned (.plain (OpenSpec.ofChange topShiftSpec)) topShiftCard

/-- THE TIED CARD OF 'payrolltop.TopMinutes'. -/
def topMinutesCard : Claim7 := { stood := { row := topMinutesRow, standIns := [], harness := (true, "ec9699fc99798246c30abdc2d7ad263a264f5dec0e95d44d1992351d51724cc3"), looks := false }, kinds := [], alts := [], laidByText := true, laidKinds := [.data], laidTests := true, laidLooks := .later }
def TopMinutesCardSaid : Prop := Claim7.holds Tryz.pinned (.plain (OpenSpec.ofChange topMinutesSpec)) topMinutesCard

/-- THE SECOND FORM's CARD OF 'payrolltop.TopShift'. -/
def topShiftUptoCard : Claim7 := { stood := { row := topShiftUptoRow, standIns := [], harness := (true, "ec9699fc99798246c30abdc2d7ad263a264f5dec0e95d44d1992351d51724cc3"), looks := false }, kinds := [], alts := [], laidByText := true, laidKinds := [.data], laidTests := true, laidLooks := .later }
def TopShiftUptoCardSaid : Prop := Claim7.holds Tryz.pinned (.plain (OpenSpec.upto topShiftSpec)) topShiftUptoCard

/-- THE SECOND FORM's CARD OF 'payrolltop.TopMinutes'. -/
def topMinutesUptoCard : Claim7 := { stood := { row := topMinutesUptoRow, standIns := [], harness := (true, "ec9699fc99798246c30abdc2d7ad263a264f5dec0e95d44d1992351d51724cc3"), looks := false }, kinds := [], alts := [], laidByText := true, laidKinds := [.data], laidTests := true, laidLooks := .later }
def TopMinutesUptoCardSaid : Prop := Claim7.holds Tryz.pinned (.plain (OpenSpec.upto topMinutesSpec)) topMinutesUptoCard
end Rows
end Go.Proofs.YtopekilofdadnaaGreatDoor
