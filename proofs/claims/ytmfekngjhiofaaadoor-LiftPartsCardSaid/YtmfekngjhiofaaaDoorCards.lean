/-
  DERIVED. GIVEN WITH THE SEED: THE CARDS: each row of YtmfekngjhiofaaaDoorRows.lean that lists a variable, with what it lists TIED to the program's text (the seventh form; the later family's looks); each row that meets fmt, with fmt's text TOLD by the authors' own Lean function (tested against real Go, not proved from fmt's source: count such statements apart). THE CARD IS WHAT COUNTS. Prove the row's statement (the work); the ties are given (YtmfekngjhiofaaaDoorTie.lean); close each card by the builder's one call (the guide's Derived/Test/ToyasCard.lean, 'card_holds'). Laid BY PROGRAM, IN A SANDBOX (cutbox-door.mjs). By AI agents, Wed Nov 11 2026. No macro, syntax, notation, axiom, sorry.
-/
import Derived.Test.YtmfekngjhiofaaaDoorRows
import GoSem.ClaimSeven
namespace Go.Proofs.YtmfekngjhiofaaaDoor
namespace Rows

/-- THE TIED CARD OF 'proofmarklaw30.ReportTells'. -/
def reportTellsCard : Claim7 := { stood := { row := reportTellsRow, standIns := [], harness := (true, "f2ebb438c29df5f872eccddddcacc6b616401c4f1cdf0dfdb3446364e0d639e6"), looks := true }, kinds := [], alts := [], laidByText := true, laidKinds := [.data, .data, .data, .mapped], laidTests := true, laidLooks := .later }
def ReportTellsCardSaid : Prop := Claim7.holds Tryd.pinned (.plain (OpenSpec.ofChange reportTellsSpec)) reportTellsCard

/-- THE TIED CARD OF 'proofmarklaw30.ReportOdd'. -/
def reportOddCard : Claim7 := { stood := { row := reportOddRow, standIns := [], harness := (true, "f2ebb438c29df5f872eccddddcacc6b616401c4f1cdf0dfdb3446364e0d639e6"), looks := true }, kinds := [], alts := [], laidByText := true, laidKinds := [.data, .data, .data, .mapped], laidTests := true, laidLooks := .later }
def ReportOddCardSaid : Prop := Claim7.holds Tryd.pinned (.plain (OpenSpec.ofChange reportOddSpec)) reportOddCard

/-- THE TIED CARD OF 'proofmarklaw30.ReportFirst'. -/
def reportFirstCard : Claim7 := { stood := { row := reportFirstRow, standIns := [], harness := (true, "f2ebb438c29df5f872eccddddcacc6b616401c4f1cdf0dfdb3446364e0d639e6"), looks := true }, kinds := [], alts := [], laidByText := true, laidKinds := [.data, .data, .data, .mapped], laidTests := true, laidLooks := .later }
def ReportFirstCardSaid : Prop := Claim7.holds Tryd.pinned (.plain (OpenSpec.ofChange reportFirstSpec)) reportFirstCard

/-- THE TIED CARD OF 'proofmarklaw30.ReportFaults'. -/
def reportFaultsCard : Claim7 := { stood := { row := reportFaultsRow, standIns := [], harness := (true, "f2ebb438c29df5f872eccddddcacc6b616401c4f1cdf0dfdb3446364e0d639e6"), looks := true }, kinds := [], alts := [], laidByText := true, laidKinds := [.data, .data, .data, .mapped], laidTests := true, laidLooks := .later }
def ReportFaultsCardSaid : Prop := Claim7.holds Tryd.pinned (.plain (OpenSpec.ofChange reportFaultsSpec)) reportFaultsCard

/-- THE TIED CARD OF 'proofmarklaw30.ReportUnlike'. -/
def reportUnlikeCard : Claim7 := { stood := { row := reportUnlikeRow, standIns := [], harness := (true, "f2ebb438c29df5f872eccddddcacc6b616401c4f1cdf0dfdb3446364e0d639e6"), looks := true }, kinds := [], alts := [], laidByText := true, laidKinds := [.data, .data, .data, .mapped], laidTests := true, laidLooks := .later }
def ReportUnlikeCardSaid : Prop := Claim7.holds Tryd.pinned (.plain (OpenSpec.ofChange reportUnlikeSpec)) reportUnlikeCard

/-- THE TIED CARD OF 'proofmarklaw30.ReportClauses'. -/
def reportClausesCard : Claim7 := { stood := { row := reportClausesRow, standIns := [], harness := (true, "f2ebb438c29df5f872eccddddcacc6b616401c4f1cdf0dfdb3446364e0d639e6"), looks := true }, kinds := [], alts := [], laidByText := true, laidKinds := [.data, .data, .data, .data, .mapped, .pinned], laidTests := true, laidLooks := .later }
def ReportClausesCardSaid : Prop := Claim7.holds Tryd.pinned (.plain (OpenSpec.ofChange reportClausesSpec)) reportClausesCard

/-- THE TIED CARD OF 'proofmarklaw27.LiftBack'. -/
def liftBackCard : Claim7 := { stood := { row := liftBackRow, standIns := [], harness := (true, "f2ebb438c29df5f872eccddddcacc6b616401c4f1cdf0dfdb3446364e0d639e6"), looks := true }, kinds := [], alts := [], laidByText := true, laidKinds := [.data, .data, .data, .data, .sentinel, .sentinel, .pinned], laidTests := true, laidLooks := .later }
def LiftBackCardSaid : Prop := Claim7.holds Tryd.pinned (.plain (OpenSpec.ofChange liftBackSpec)) liftBackCard

/-- THE TIED CARD OF 'proofmarklaw27.LiftReads'. -/
def liftReadsCard : Claim7 := { stood := { row := liftReadsRow, standIns := [], harness := (true, "f2ebb438c29df5f872eccddddcacc6b616401c4f1cdf0dfdb3446364e0d639e6"), looks := true }, kinds := [], alts := [], laidByText := true, laidKinds := [.data, .data, .data, .data, .sentinel, .sentinel, .pinned], laidTests := true, laidLooks := .later }
def LiftReadsCardSaid : Prop := Claim7.holds Tryd.pinned (.plain (OpenSpec.ofChange liftReadsSpec)) liftReadsCard

/-- THE TIED CARD OF 'proofmarklaw27.LiftLines'. -/
def liftLinesCard : Claim7 := { stood := { row := liftLinesRow, standIns := [], harness := (true, "f2ebb438c29df5f872eccddddcacc6b616401c4f1cdf0dfdb3446364e0d639e6"), looks := true }, kinds := [], alts := [], laidByText := true, laidKinds := [.data, .data, .data, .data, .sentinel, .sentinel, .pinned], laidTests := true, laidLooks := .later }
def LiftLinesCardSaid : Prop := Claim7.holds Tryd.pinned (.plain (OpenSpec.ofChange liftLinesSpec)) liftLinesCard

/-- THE TIED CARD OF 'proofmarklaw27.LiftParts'. -/
def liftPartsCard : Claim7 := { stood := { row := liftPartsRow, standIns := [], harness := (true, "f2ebb438c29df5f872eccddddcacc6b616401c4f1cdf0dfdb3446364e0d639e6"), looks := true }, kinds := [], alts := [], laidByText := true, laidKinds := [.data, .data, .data, .data, .sentinel, .sentinel, .pinned], laidTests := true, laidLooks := .later }
def LiftPartsCardSaid : Prop := Claim7.holds Tryd.pinned (.plain (OpenSpec.ofChange liftPartsSpec)) liftPartsCard

/-- THE SECOND FORM's CARD OF 'proofmarklaw30.ReportTells'. -/
def reportTellsUptoCard : Claim7 := { stood := { row := reportTellsUptoRow, standIns := [], harness := (true, "f2ebb438c29df5f872eccddddcacc6b616401c4f1cdf0dfdb3446364e0d639e6"), looks := true }, kinds := [], alts := [], laidByText := true, laidKinds := [.data, .data, .data, .mapped], laidTests := true, laidLooks := .later }
def ReportTellsUptoCardSaid : Prop := Claim7.holds Tryd.pinned (.plain (OpenSpec.upto reportTellsSpec)) reportTellsUptoCard

/-- THE SECOND FORM's CARD OF 'proofmarklaw30.ReportOdd'. -/
def reportOddUptoCard : Claim7 := { stood := { row := reportOddUptoRow, standIns := [], harness := (true, "f2ebb438c29df5f872eccddddcacc6b616401c4f1cdf0dfdb3446364e0d639e6"), looks := true }, kinds := [], alts := [], laidByText := true, laidKinds := [.data, .data, .data, .mapped], laidTests := true, laidLooks := .later }
def ReportOddUptoCardSaid : Prop := Claim7.holds Tryd.pinned (.plain (OpenSpec.upto reportOddSpec)) reportOddUptoCard

/-- THE SECOND FORM's CARD OF 'proofmarklaw30.ReportFirst'. -/
def reportFirstUptoCard : Claim7 := { stood := { row := reportFirstUptoRow, standIns := [], harness := (true, "f2ebb438c29df5f872eccddddcacc6b616401c4f1cdf0dfdb3446364e0d639e6"), looks := true }, kinds := [], alts := [], laidByText := true, laidKinds := [.data, .data, .data, .mapped], laidTests := true, laidLooks := .later }
def ReportFirstUptoCardSaid : Prop := Claim7.holds Tryd.pinned (.plain (OpenSpec.upto reportFirstSpec)) reportFirstUptoCard

/-- THE SECOND FORM's CARD OF 'proofmarklaw30.ReportFaults'. -/
def reportFaultsUptoCard : Claim7 := { stood := { row := reportFaultsUptoRow, standIns := [], harness := (true, "f2ebb438c29df5f872eccddddcacc6b616401c4f1cdf0dfdb3446364e0d639e6"), looks := true }, kinds := [], alts := [], laidByText := true, laidKinds := [.data, .data, .data, .mapped], laidTests := true, laidLooks := .later }
def ReportFaultsUptoCardSaid : Prop := Claim7.holds Tryd.pinned (.plain (OpenSpec.upto reportFaultsSpec)) reportFaultsUptoCard

/-- THE SECOND FORM's CARD OF 'proofmarklaw30.ReportUnlike'. -/
def reportUnlikeUptoCard : Claim7 := { stood := { row := reportUnlikeUptoRow, standIns := [], harness := (true, "f2ebb438c29df5f872eccddddcacc6b616401c4f1cdf0dfdb3446364e0d639e6"), looks := true }, kinds := [], alts := [], laidByText := true, laidKinds := [.data, .data, .data, .mapped], laidTests := true, laidLooks := .later }
def ReportUnlikeUptoCardSaid : Prop := Claim7.holds Tryd.pinned (.plain (OpenSpec.upto reportUnlikeSpec)) reportUnlikeUptoCard

/-- THE SECOND FORM's CARD OF 'proofmarklaw30.ReportClauses'. -/
def reportClausesUptoCard : Claim7 := { stood := { row := reportClausesUptoRow, standIns := [], harness := (true, "f2ebb438c29df5f872eccddddcacc6b616401c4f1cdf0dfdb3446364e0d639e6"), looks := true }, kinds := [], alts := [], laidByText := true, laidKinds := [.data, .data, .data, .data, .mapped, .pinned], laidTests := true, laidLooks := .later }
def ReportClausesUptoCardSaid : Prop := Claim7.holds Tryd.pinned (.plain (OpenSpec.upto reportClausesSpec)) reportClausesUptoCard

/-- THE SECOND FORM's CARD OF 'proofmarklaw27.LiftBack'. -/
def liftBackUptoCard : Claim7 := { stood := { row := liftBackUptoRow, standIns := [], harness := (true, "f2ebb438c29df5f872eccddddcacc6b616401c4f1cdf0dfdb3446364e0d639e6"), looks := true }, kinds := [], alts := [], laidByText := true, laidKinds := [.data, .data, .data, .data, .sentinel, .sentinel, .pinned], laidTests := true, laidLooks := .later }
def LiftBackUptoCardSaid : Prop := Claim7.holds Tryd.pinned (.plain (OpenSpec.upto liftBackSpec)) liftBackUptoCard

/-- THE SECOND FORM's CARD OF 'proofmarklaw27.LiftReads'. -/
def liftReadsUptoCard : Claim7 := { stood := { row := liftReadsUptoRow, standIns := [], harness := (true, "f2ebb438c29df5f872eccddddcacc6b616401c4f1cdf0dfdb3446364e0d639e6"), looks := true }, kinds := [], alts := [], laidByText := true, laidKinds := [.data, .data, .data, .data, .sentinel, .sentinel, .pinned], laidTests := true, laidLooks := .later }
def LiftReadsUptoCardSaid : Prop := Claim7.holds Tryd.pinned (.plain (OpenSpec.upto liftReadsSpec)) liftReadsUptoCard

/-- THE SECOND FORM's CARD OF 'proofmarklaw27.LiftLines'. -/
def liftLinesUptoCard : Claim7 := { stood := { row := liftLinesUptoRow, standIns := [], harness := (true, "f2ebb438c29df5f872eccddddcacc6b616401c4f1cdf0dfdb3446364e0d639e6"), looks := true }, kinds := [], alts := [], laidByText := true, laidKinds := [.data, .data, .data, .data, .sentinel, .sentinel, .pinned], laidTests := true, laidLooks := .later }
def LiftLinesUptoCardSaid : Prop := Claim7.holds Tryd.pinned (.plain (OpenSpec.upto liftLinesSpec)) liftLinesUptoCard

/-- THE SECOND FORM's CARD OF 'proofmarklaw27.LiftParts'. -/
def liftPartsUptoCard : Claim7 := { stood := { row := liftPartsUptoRow, standIns := [], harness := (true, "f2ebb438c29df5f872eccddddcacc6b616401c4f1cdf0dfdb3446364e0d639e6"), looks := true }, kinds := [], alts := [], laidByText := true, laidKinds := [.data, .data, .data, .data, .sentinel, .sentinel, .pinned], laidTests := true, laidLooks := .later }
def LiftPartsUptoCardSaid : Prop := Claim7.holds Tryd.pinned (.plain (OpenSpec.upto liftPartsSpec)) liftPartsUptoCard
end Rows
end Go.Proofs.YtmfekngjhiofaaaDoor
