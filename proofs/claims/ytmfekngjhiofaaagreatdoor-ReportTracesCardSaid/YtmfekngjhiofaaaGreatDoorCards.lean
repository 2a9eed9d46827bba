/-
  DERIVED. GIVEN WITH THE SEED: THE CARDS: each row of YtmfekngjhiofaaaGreatDoorRows.lean that lists a variable, with what it lists TIED to the program's text (the seventh form; the later family's looks); each row that meets fmt, with fmt's text TOLD by the authors' own Lean function (tested against real Go, not proved from fmt's source: count such statements apart). THE CARD IS WHAT COUNTS. Prove the row's statement (the work); the ties are given (YtmfekngjhiofaaaGreatDoorTie.lean); close each card by the builder's one call (the guide's Derived/Test/ToyasCard.lean, 'card_holds'). Laid BY PROGRAM, IN A SANDBOX (cutbox-door.mjs). By AI agents, Wed Nov 11 2026. No macro, syntax, notation, axiom, sorry.
-/
import Derived.Test.YtmfekngjhiofaaaGreatDoorRows
import GoSem.ClaimSeven
namespace Go.Proofs.YtmfekngjhiofaaaGreatDoor
namespace Rows

/-- THE TIED CARD OF 'proofmarklaw27.LiftTells'. -/
def liftTellsCard : Claim7 := { stood := { row := liftTellsRow, standIns := [], harness := (true, "6ff9203fb1b5b4346d208b150d8fefe77791f4d116dd5cc26ac9388d1d5f5fc7"), looks := true }, kinds := [], alts := [], laidByText := true, laidKinds := [.data, .data, .data, .data, .sentinel, .sentinel, .pinned], laidTests := true, laidLooks := .later }
def LiftTellsCardSaid : Prop := Claim7.holds Tryz.pinned (.plain (OpenSpec.ofChange liftTellsSpec)) liftTellsCard

/-- THE TIED CARD OF 'proofmarklaw27.LiftSays'. -/
def liftSaysCard : Claim7 := { stood := { row := liftSaysRow, standIns := [], harness := (true, "6ff9203fb1b5b4346d208b150d8fefe77791f4d116dd5cc26ac9388d1d5f5fc7"), looks := true }, kinds := [], alts := [], laidByText := true, laidKinds := [.data, .data, .data, .data, .sentinel, .sentinel, .pinned], laidTests := true, laidLooks := .later }
def LiftSaysCardSaid : Prop := Claim7.holds Tryz.pinned (.plain (OpenSpec.ofChange liftSaysSpec)) liftSaysCard

/-- THE TIED CARD OF 'proofmarklaw30.ReportTraces'. -/
def reportTracesCard : Claim7 := { stood := { row := reportTracesRow, standIns := [], harness := (true, "6ff9203fb1b5b4346d208b150d8fefe77791f4d116dd5cc26ac9388d1d5f5fc7"), looks := true }, kinds := [], alts := [], laidByText := true, laidKinds := [.data, .data, .data, .data, .sentinel, .sentinel, .mapped, .pinned], laidTests := true, laidLooks := .later }
def ReportTracesCardSaid : Prop := Claim7.holds Tryz.pinned (.plain (OpenSpec.ofChange reportTracesSpec)) reportTracesCard

/-- THE SECOND FORM's CARD OF 'proofmarklaw27.LiftTells'. -/
def liftTellsUptoCard : Claim7 := { stood := { row := liftTellsUptoRow, standIns := [], harness := (true, "6ff9203fb1b5b4346d208b150d8fefe77791f4d116dd5cc26ac9388d1d5f5fc7"), looks := true }, kinds := [], alts := [], laidByText := true, laidKinds := [.data, .data, .data, .data, .sentinel, .sentinel, .pinned], laidTests := true, laidLooks := .later }
def LiftTellsUptoCardSaid : Prop := Claim7.holds Tryz.pinned (.plain (OpenSpec.upto liftTellsSpec)) liftTellsUptoCard

/-- THE SECOND FORM's CARD OF 'proofmarklaw27.LiftSays'. -/
def liftSaysUptoCard : Claim7 := { stood := { row := liftSaysUptoRow, standIns := [], harness := (true, "6ff9203fb1b5b4346d208b150d8fefe77791f4d116dd5cc26ac9388d1d5f5fc7"), looks := true }, kinds := [], alts := [], laidByText := true, laidKinds := [.data, .data, .data, .data, .sentinel, .sentinel, .pinned], laidTests := true, laidLooks := .later }
def LiftSaysUptoCardSaid : Prop := Claim7.holds Tryz.pinned (.plain (OpenSpec.upto liftSaysSpec)) liftSaysUptoCard

/-- THE SECOND FORM's CARD OF 'proofmarklaw30.ReportTraces'. -/
def reportTracesUptoCard : Claim7 := { stood := { row := reportTracesUptoRow, standIns := [], harness := (true, "6ff9203fb1b5b4346d208b150d8fefe77791f4d116dd5cc26ac9388d1d5f5fc7"), looks := true }, kinds := [], alts := [], laidByText := true, laidKinds := [.data, .data, .data, .data, .sentinel, .sentinel, .mapped, .pinned], laidTests := true, laidLooks := .later }
def ReportTracesUptoCardSaid : Prop := Claim7.holds Tryz.pinned (.plain (OpenSpec.upto reportTracesSpec)) reportTracesUptoCard
end Rows
end Go.Proofs.YtmfekngjhiofaaaGreatDoor
