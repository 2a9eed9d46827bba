/-
  DERIVED. GIVEN WITH THE SEED: THE CARDS: each row of YtenogedclignmaaDoorRows.lean that lists a variable, with what it lists TIED to the program's text (the seventh form; the later family's looks); each row that meets fmt, with fmt's text TOLD by the authors' own Lean function (tested against real Go, not proved from fmt's source: count such statements apart). THE CARD IS WHAT COUNTS. Prove the row's statement (the work); the ties are given (YtenogedclignmaaDoorTie.lean); close each card by the builder's one call (the guide's Derived/Test/ToyasCard.lean, 'card_holds'). Laid BY PROGRAM, IN A SANDBOX (cutbox-door.mjs). By AI agents, Wed Nov 11 2026. No macro, syntax, notation, axiom, sorry.
-/
import Derived.Test.YtenogedclignmaaDoorRows
import GoSem.ClaimSeven
namespace Go.Proofs.YtenogedclignmaaDoor
namespace Rows

/-- THE TIED CARD OF 'proofmarklaw02.SynPlaces'. -/
def synPlacesCard : Claim7 := { stood := { row := synPlacesRow, standIns := [], harness := (true, "217c4345a820ce5e5491d2af40f8049886b0bb986d6a753ecca2c4cf7aa36c8e"), looks := true }, kinds := [], alts := [], laidByText := true, laidKinds := [.data, .data, .data, .sentinel, .sentinel, .data, .mapped, .mapped, .mapped], laidTests := true, laidLooks := .later }
def SynPlacesCardSaid : Prop := Claim7.holds Tryd.pinned (.plain (OpenSpec.ofChange synPlacesSpec)) synPlacesCard

/-- THE TIED CARD OF 'proofmarklaw02.SynJoins'. -/
def synJoinsCard : Claim7 := { stood := { row := synJoinsRow, standIns := [], harness := (true, "217c4345a820ce5e5491d2af40f8049886b0bb986d6a753ecca2c4cf7aa36c8e"), looks := true }, kinds := [], alts := [], laidByText := true, laidKinds := [.data, .data, .data, .sentinel, .sentinel, .data, .mapped, .mapped, .mapped], laidTests := true, laidLooks := .later }
def SynJoinsCardSaid : Prop := Claim7.holds Tryd.pinned (.plain (OpenSpec.ofChange synJoinsSpec)) synJoinsCard

/-- THE TIED CARD OF 'proofmarklaw02.SynCuts'. -/
def synCutsCard : Claim7 := { stood := { row := synCutsRow, standIns := [], harness := (true, "217c4345a820ce5e5491d2af40f8049886b0bb986d6a753ecca2c4cf7aa36c8e"), looks := true }, kinds := [], alts := [], laidByText := true, laidKinds := [.data, .data, .data, .sentinel, .sentinel, .data, .mapped, .mapped, .mapped], laidTests := true, laidLooks := .later }
def SynCutsCardSaid : Prop := Claim7.holds Tryd.pinned (.plain (OpenSpec.ofChange synCutsSpec)) synCutsCard

/-- THE TIED CARD OF 'proofmarklaw02.SynSpares'. -/
def synSparesCard : Claim7 := { stood := { row := synSparesRow, standIns := [], harness := (true, "217c4345a820ce5e5491d2af40f8049886b0bb986d6a753ecca2c4cf7aa36c8e"), looks := true }, kinds := [], alts := [], laidByText := true, laidKinds := [.data, .data, .data, .sentinel, .sentinel, .data, .mapped, .mapped, .mapped], laidTests := true, laidLooks := .later }
def SynSparesCardSaid : Prop := Claim7.holds Tryd.pinned (.plain (OpenSpec.ofChange synSparesSpec)) synSparesCard

/-- THE TIED CARD OF 'proofmarklaw02.SynLexes'. -/
def synLexesCard : Claim7 := { stood := { row := synLexesRow, standIns := [], harness := (true, "217c4345a820ce5e5491d2af40f8049886b0bb986d6a753ecca2c4cf7aa36c8e"), looks := true }, kinds := [], alts := [], laidByText := true, laidKinds := [.data, .data, .data, .sentinel, .sentinel, .data, .mapped, .mapped, .mapped], laidTests := true, laidLooks := .later }
def SynLexesCardSaid : Prop := Claim7.holds Tryd.pinned (.plain (OpenSpec.ofChange synLexesSpec)) synLexesCard

/-- THE TIED CARD OF 'proofmarklaw02.SynSpread'. -/
def synSpreadCard : Claim7 := { stood := { row := synSpreadRow, standIns := [], harness := (true, "217c4345a820ce5e5491d2af40f8049886b0bb986d6a753ecca2c4cf7aa36c8e"), looks := true }, kinds := [], alts := [], laidByText := true, laidKinds := [.data, .data, .data, .sentinel, .sentinel, .data, .mapped, .mapped, .mapped], laidTests := true, laidLooks := .later }
def SynSpreadCardSaid : Prop := Claim7.holds Tryd.pinned (.plain (OpenSpec.ofChange synSpreadSpec)) synSpreadCard

/-- THE SECOND FORM's CARD OF 'proofmarklaw02.SynPlaces'. -/
def synPlacesUptoCard : Claim7 := { stood := { row := synPlacesUptoRow, standIns := [], harness := (true, "217c4345a820ce5e5491d2af40f8049886b0bb986d6a753ecca2c4cf7aa36c8e"), looks := true }, kinds := [], alts := [], laidByText := true, laidKinds := [.data, .data, .data, .sentinel, .sentinel, .data, .mapped, .mapped, .mapped], laidTests := true, laidLooks := .later }
def SynPlacesUptoCardSaid : Prop := Claim7.holds Tryd.pinned (.plain (OpenSpec.upto synPlacesSpec)) synPlacesUptoCard

/-- THE SECOND FORM's CARD OF 'proofmarklaw02.SynJoins'. -/
def synJoinsUptoCard : Claim7 := { stood := { row := synJoinsUptoRow, standIns := [], harness := (true, "217c4345a820ce5e5491d2af40f8049886b0bb986d6a753ecca2c4cf7aa36c8e"), looks := true }, kinds := [], alts := [], laidByText := true, laidKinds := [.data, .data, .data, .sentinel, .sentinel, .data, .mapped, .mapped, .mapped], laidTests := true, laidLooks := .later }
def SynJoinsUptoCardSaid : Prop := Claim7.holds Tryd.pinned (.plain (OpenSpec.upto synJoinsSpec)) synJoinsUptoCard

/-- THE SECOND FORM's CARD OF 'proofmarklaw02.SynCuts'. -/
def synCutsUptoCard : Claim7 := { stood := { row := synCutsUptoRow, standIns := [], harness := (true, "217c4345a820ce5e5491d2af40f8049886b0bb986d6a753ecca2c4cf7aa36c8e"), looks := true }, kinds := [], alts := [], laidByText := true, laidKinds := [.data, .data, .data, .sentinel, .sentinel, .data, .mapped, .mapped, .mapped], laidTests := true, laidLooks := .later }
def SynCutsUptoCardSaid : Prop := Claim7.holds Tryd.pinned (.plain (OpenSpec.upto synCutsSpec)) synCutsUptoCard

/-- THE SECOND FORM's CARD OF 'proofmarklaw02.SynSpares'. -/
def synSparesUptoCard : Claim7 := { stood := { row := synSparesUptoRow, standIns := [], harness := (true, "217c4345a820ce5e5491d2af40f8049886b0bb986d6a753ecca2c4cf7aa36c8e"), looks := true }, kinds := [], alts := [], laidByText := true, laidKinds := [.data, .data, .data, .sentinel, .sentinel, .data, .mapped, .mapped, .mapped], laidTests := true, laidLooks := .later }
def SynSparesUptoCardSaid : Prop := Claim7.holds Tryd.pinned (.plain (OpenSpec.upto synSparesSpec)) synSparesUptoCard

/-- THE SECOND FORM's CARD OF 'proofmarklaw02.SynLexes'. -/
def synLexesUptoCard : Claim7 := { stood := { row := synLexesUptoRow, standIns := [], harness := (true, "217c4345a820ce5e5491d2af40f8049886b0bb986d6a753ecca2c4cf7aa36c8e"), looks := true }, kinds := [], alts := [], laidByText := true, laidKinds := [.data, .data, .data, .sentinel, .sentinel, .data, .mapped, .mapped, .mapped], laidTests := true, laidLooks := .later }
def SynLexesUptoCardSaid : Prop := Claim7.holds Tryd.pinned (.plain (OpenSpec.upto synLexesSpec)) synLexesUptoCard

/-- THE SECOND FORM's CARD OF 'proofmarklaw02.SynSpread'. -/
def synSpreadUptoCard : Claim7 := { stood := { row := synSpreadUptoRow, standIns := [], harness := (true, "217c4345a820ce5e5491d2af40f8049886b0bb986d6a753ecca2c4cf7aa36c8e"), looks := true }, kinds := [], alts := [], laidByText := true, laidKinds := [.data, .data, .data, .sentinel, .sentinel, .data, .mapped, .mapped, .mapped], laidTests := true, laidLooks := .later }
def SynSpreadUptoCardSaid : Prop := Claim7.holds Tryd.pinned (.plain (OpenSpec.upto synSpreadSpec)) synSpreadUptoCard
end Rows
end Go.Proofs.YtenogedclignmaaDoor
