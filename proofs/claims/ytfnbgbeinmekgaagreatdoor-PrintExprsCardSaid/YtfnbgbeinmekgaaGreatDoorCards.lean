/-
  DERIVED. GIVEN WITH THE SEED: THE CARDS: each row of YtfnbgbeinmekgaaGreatDoorRows.lean that lists a variable, with what it lists TIED to the program's text (the seventh form; the later family's looks); each row that meets fmt, with fmt's text TOLD by the authors' own Lean function (tested against real Go, not proved from fmt's source: count such statements apart). THE CARD IS WHAT COUNTS. Prove the row's statement (the work); the ties are given (YtfnbgbeinmekgaaGreatDoorTie.lean); close each card by the builder's one call (the guide's Derived/Test/ToyasCard.lean, 'card_holds'). Laid BY PROGRAM, IN A SANDBOX (cutbox-door.mjs). By AI agents, Wed Nov 11 2026. No macro, syntax, notation, axiom, sorry.
-/
import Derived.Test.YtfnbgbeinmekgaaGreatDoorRows
import GoSem.ClaimSeven
namespace Go.Proofs.YtfnbgbeinmekgaaGreatDoor
namespace Rows

/-- THE TIED CARD OF 'rewindlaw05.PrintBack'. -/
def printBackCard : Claim7 := { stood := { row := printBackRow, standIns := [], harness := (true, "2c7d8373d074a9b1bfbb2c361f22aa4626739214750733e64b7636dde74562b4"), looks := true }, kinds := [], alts := [], laidByText := true, laidKinds := [.data, .data, .data, .widerDeep, .widerDeep, .widerDeep], laidTests := true, laidLooks := .later }
def PrintBackCardSaid : Prop := Claim7.holds Tryz.pinned (.plain (OpenSpec.ofChange printBackSpec)) printBackCard

/-- THE TIED CARD OF 'rewindlaw05.PrintTabs'. -/
def printTabsCard : Claim7 := { stood := { row := printTabsRow, standIns := [], harness := (true, "2c7d8373d074a9b1bfbb2c361f22aa4626739214750733e64b7636dde74562b4"), looks := true }, kinds := [], alts := [], laidByText := true, laidKinds := [.data, .data, .data, .widerDeep, .widerDeep, .widerDeep], laidTests := true, laidLooks := .later }
def PrintTabsCardSaid : Prop := Claim7.holds Tryz.pinned (.plain (OpenSpec.ofChange printTabsSpec)) printTabsCard

/-- THE TIED CARD OF 'rewindlaw05.PrintPrints'. -/
def printPrintsCard : Claim7 := { stood := { row := printPrintsRow, standIns := [], harness := (true, "2c7d8373d074a9b1bfbb2c361f22aa4626739214750733e64b7636dde74562b4"), looks := true }, kinds := [], alts := [], laidByText := true, laidKinds := [.data, .data, .data, .widerDeep, .widerDeep, .widerDeep], laidTests := true, laidLooks := .later }
def PrintPrintsCardSaid : Prop := Claim7.holds Tryz.pinned (.plain (OpenSpec.ofChange printPrintsSpec)) printPrintsCard

/-- THE TIED CARD OF 'rewindlaw05.PrintExprs'. -/
def printExprsCard : Claim7 := { stood := { row := printExprsRow, standIns := [], harness := (true, "2c7d8373d074a9b1bfbb2c361f22aa4626739214750733e64b7636dde74562b4"), looks := true }, kinds := [], alts := [], laidByText := true, laidKinds := [.data, .data, .data, .widerDeep, .widerDeep, .widerDeep], laidTests := true, laidLooks := .later }
def PrintExprsCardSaid : Prop := Claim7.holds Tryz.pinned (.plain (OpenSpec.ofChange printExprsSpec)) printExprsCard

/-- THE SECOND FORM's CARD OF 'rewindlaw05.PrintBack'. -/
def printBackUptoCard : Claim7 := { stood := { row := printBackUptoRow, standIns := [], harness := (true, "2c7d8373d074a9b1bfbb2c361f22aa4626739214750733e64b7636dde74562b4"), looks := true }, kinds := [], alts := [], laidByText := true, laidKinds := [.data, .data, .data, .widerDeep, .widerDeep, .widerDeep], laidTests := true, laidLooks := .later }
def PrintBackUptoCardSaid : Prop := Claim7.holds Tryz.pinned (.plain (OpenSpec.upto printBackSpec)) printBackUptoCard

/-- THE SECOND FORM's CARD OF 'rewindlaw05.PrintTabs'. -/
def printTabsUptoCard : Claim7 := { stood := { row := printTabsUptoRow, standIns := [], harness := (true, "2c7d8373d074a9b1bfbb2c361f22aa4626739214750733e64b7636dde74562b4"), looks := true }, kinds := [], alts := [], laidByText := true, laidKinds := [.data, .data, .data, .widerDeep, .widerDeep, .widerDeep], laidTests := true, laidLooks := .later }
def PrintTabsUptoCardSaid : Prop := Claim7.holds Tryz.pinned (.plain (OpenSpec.upto printTabsSpec)) printTabsUptoCard

/-- THE SECOND FORM's CARD OF 'rewindlaw05.PrintPrints'. -/
def printPrintsUptoCard : Claim7 := { stood := { row := printPrintsUptoRow, standIns := [], harness := (true, "2c7d8373d074a9b1bfbb2c361f22aa4626739214750733e64b7636dde74562b4"), looks := true }, kinds := [], alts := [], laidByText := true, laidKinds := [.data, .data, .data, .widerDeep, .widerDeep, .widerDeep], laidTests := true, laidLooks := .later }
def PrintPrintsUptoCardSaid : Prop := Claim7.holds Tryz.pinned (.plain (OpenSpec.upto printPrintsSpec)) printPrintsUptoCard

/-- THE SECOND FORM's CARD OF 'rewindlaw05.PrintExprs'. -/
def printExprsUptoCard : Claim7 := { stood := { row := printExprsUptoRow, standIns := [], harness := (true, "2c7d8373d074a9b1bfbb2c361f22aa4626739214750733e64b7636dde74562b4"), looks := true }, kinds := [], alts := [], laidByText := true, laidKinds := [.data, .data, .data, .widerDeep, .widerDeep, .widerDeep], laidTests := true, laidLooks := .later }
def PrintExprsUptoCardSaid : Prop := Claim7.holds Tryz.pinned (.plain (OpenSpec.upto printExprsSpec)) printExprsUptoCard
end Rows
end Go.Proofs.YtfnbgbeinmekgaaGreatDoor
