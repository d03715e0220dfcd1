/-
  DERIVED. GIVEN WITH THE SEED: THE CARDS: each row of YtimgapkngjkagaaDoorRows.lean that lists a variable, with what it lists TIED to the program's text (the seventh form; the later family's looks); each row that meets fmt, with fmt's text TOLD by the authors' own Lean function (tested against real Go, not proved from fmt's source: count such statements apart). THE CARD IS WHAT COUNTS. Prove the row's statement (the work); the ties are given (YtimgapkngjkagaaDoorTie.lean); close each card by the builder's one call (the guide's Derived/Test/ToyasCard.lean, 'card_holds'). Laid BY PROGRAM, IN A SANDBOX (cutbox-door.mjs). By AI agents, Wed Nov 11 2026. No macro, syntax, notation, axiom, sorry.
-/
import Derived.Test.YtimgapkngjkagaaDoorRows
import GoSem.ClaimSeven
namespace Go.Proofs.YtimgapkngjkagaaDoor
namespace Rows

/-- THE TIED CARD OF 'rewindlaw01.PageLines'. -/
def pageLinesCard : Claim7 := { stood := { row := pageLinesRow, standIns := [], harness := (true, "f63ac10e8fca2ff45da3a18239d717f7965dac7e3eb53c6d6a76cefc6c185428"), looks := false }, kinds := [], alts := [], laidByText := true, laidKinds := [.data, .pinned], laidTests := true, laidLooks := .later }
def PageLinesCardSaid : Prop := Claim7.holds Tryd.pinned (.plain (OpenSpec.ofChange pageLinesSpec)) pageLinesCard

/-- THE TIED CARD OF 'rewindlaw01.PagePlaces'. -/
def pagePlacesCard : Claim7 := { stood := { row := pagePlacesRow, standIns := [], harness := (true, "f63ac10e8fca2ff45da3a18239d717f7965dac7e3eb53c6d6a76cefc6c185428"), looks := false }, kinds := [], alts := [], laidByText := true, laidKinds := [.data, .pinned], laidTests := true, laidLooks := .later }
def PagePlacesCardSaid : Prop := Claim7.holds Tryd.pinned (.plain (OpenSpec.ofChange pagePlacesSpec)) pagePlacesCard

/-- THE TIED CARD OF 'rewindlaw01.PageAts'. -/
def pageAtsCard : Claim7 := { stood := { row := pageAtsRow, standIns := [], harness := (true, "f63ac10e8fca2ff45da3a18239d717f7965dac7e3eb53c6d6a76cefc6c185428"), looks := false }, kinds := [], alts := [], laidByText := true, laidKinds := [.data, .pinned], laidTests := true, laidLooks := .later }
def PageAtsCardSaid : Prop := Claim7.holds Tryd.pinned (.plain (OpenSpec.ofChange pageAtsSpec)) pageAtsCard

/-- THE TIED CARD OF 'rewindlaw01.PageLinesAt'. -/
def pageLinesAtCard : Claim7 := { stood := { row := pageLinesAtRow, standIns := [], harness := (true, "f63ac10e8fca2ff45da3a18239d717f7965dac7e3eb53c6d6a76cefc6c185428"), looks := false }, kinds := [], alts := [], laidByText := true, laidKinds := [.data, .pinned], laidTests := true, laidLooks := .later }
def PageLinesAtCardSaid : Prop := Claim7.holds Tryd.pinned (.plain (OpenSpec.ofChange pageLinesAtSpec)) pageLinesAtCard

/-- THE SECOND FORM's CARD OF 'rewindlaw01.PageLines'. -/
def pageLinesUptoCard : Claim7 := { stood := { row := pageLinesUptoRow, standIns := [], harness := (true, "f63ac10e8fca2ff45da3a18239d717f7965dac7e3eb53c6d6a76cefc6c185428"), looks := false }, kinds := [], alts := [], laidByText := true, laidKinds := [.data, .pinned], laidTests := true, laidLooks := .later }
def PageLinesUptoCardSaid : Prop := Claim7.holds Tryd.pinned (.plain (OpenSpec.upto pageLinesSpec)) pageLinesUptoCard

/-- THE SECOND FORM's CARD OF 'rewindlaw01.PagePlaces'. -/
def pagePlacesUptoCard : Claim7 := { stood := { row := pagePlacesUptoRow, standIns := [], harness := (true, "f63ac10e8fca2ff45da3a18239d717f7965dac7e3eb53c6d6a76cefc6c185428"), looks := false }, kinds := [], alts := [], laidByText := true, laidKinds := [.data, .pinned], laidTests := true, laidLooks := .later }
def PagePlacesUptoCardSaid : Prop := Claim7.holds Tryd.pinned (.plain (OpenSpec.upto pagePlacesSpec)) pagePlacesUptoCard

/-- THE SECOND FORM's CARD OF 'rewindlaw01.PageAts'. -/
def pageAtsUptoCard : Claim7 := { stood := { row := pageAtsUptoRow, standIns := [], harness := (true, "f63ac10e8fca2ff45da3a18239d717f7965dac7e3eb53c6d6a76cefc6c185428"), looks := false }, kinds := [], alts := [], laidByText := true, laidKinds := [.data, .pinned], laidTests := true, laidLooks := .later }
def PageAtsUptoCardSaid : Prop := Claim7.holds Tryd.pinned (.plain (OpenSpec.upto pageAtsSpec)) pageAtsUptoCard

/-- THE SECOND FORM's CARD OF 'rewindlaw01.PageLinesAt'. -/
def pageLinesAtUptoCard : Claim7 := { stood := { row := pageLinesAtUptoRow, standIns := [], harness := (true, "f63ac10e8fca2ff45da3a18239d717f7965dac7e3eb53c6d6a76cefc6c185428"), looks := false }, kinds := [], alts := [], laidByText := true, laidKinds := [.data, .pinned], laidTests := true, laidLooks := .later }
def PageLinesAtUptoCardSaid : Prop := Claim7.holds Tryd.pinned (.plain (OpenSpec.upto pageLinesAtSpec)) pageLinesAtUptoCard
end Rows
end Go.Proofs.YtimgapkngjkagaaDoor
