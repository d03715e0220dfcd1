/-
  DERIVED. GIVEN WITH THE SEED: THE CARDS: each row of YtgnkdeapifbgeaaDoorRows.lean that lists a variable, with what it lists TIED to the program's text (the seventh form; the later family's looks); each row that meets fmt, with fmt's text TOLD by the authors' own Lean function (tested against real Go, not proved from fmt's source: count such statements apart). THE CARD IS WHAT COUNTS. Prove the row's statement (the work); the ties are given (YtgnkdeapifbgeaaDoorTie.lean); close each card by the builder's one call (the guide's Derived/Test/ToyasCard.lean, 'card_holds'). Laid BY PROGRAM, IN A SANDBOX (cutbox-door.mjs). By AI agents, Wed Nov 11 2026. No macro, syntax, notation, axiom, sorry.
-/
import Derived.Test.YtgnkdeapifbgeaaDoorRows
import GoSem.ClaimSeven
namespace Go.Proofs.YtgnkdeapifbgeaaDoor
namespace Rows

/-- THE TIED CARD OF 'rewindlaw04.SyntaxSpans'. -/
def syntaxSpansCard : Claim7 := { stood := { row := syntaxSpansRow, standIns := [], harness := (true, "abebc9e3d2012f8a3a6387e75e3cebb5988369673ac337af31cdbc509527c4ad"), looks := true }, kinds := [], alts := [], laidByText := true, laidKinds := [.widerDeep, .widerDeep], laidTests := true, laidLooks := .later }
def SyntaxSpansCardSaid : Prop := Claim7.holds Tryd.pinned (.plain (OpenSpec.ofChange syntaxSpansSpec)) syntaxSpansCard

/-- THE TIED CARD OF 'rewindlaw04.SyntaxDeeps'. -/
def syntaxDeepsCard : Claim7 := { stood := { row := syntaxDeepsRow, standIns := [], harness := (true, "abebc9e3d2012f8a3a6387e75e3cebb5988369673ac337af31cdbc509527c4ad"), looks := true }, kinds := [], alts := [], laidByText := true, laidKinds := [.widerDeep, .widerDeep], laidTests := true, laidLooks := .later }
def SyntaxDeepsCardSaid : Prop := Claim7.holds Tryd.pinned (.plain (OpenSpec.ofChange syntaxDeepsSpec)) syntaxDeepsCard

/-- THE TIED CARD OF 'rewindlaw04.SyntaxMany'. -/
def syntaxManyCard : Claim7 := { stood := { row := syntaxManyRow, standIns := [], harness := (true, "abebc9e3d2012f8a3a6387e75e3cebb5988369673ac337af31cdbc509527c4ad"), looks := true }, kinds := [], alts := [], laidByText := true, laidKinds := [.widerDeep, .widerDeep], laidTests := true, laidLooks := .later }
def SyntaxManyCardSaid : Prop := Claim7.holds Tryd.pinned (.plain (OpenSpec.ofChange syntaxManySpec)) syntaxManyCard

/-- THE TIED CARD OF 'rewindlaw04.SyntaxJoins'. -/
def syntaxJoinsCard : Claim7 := { stood := { row := syntaxJoinsRow, standIns := [], harness := (true, "abebc9e3d2012f8a3a6387e75e3cebb5988369673ac337af31cdbc509527c4ad"), looks := true }, kinds := [], alts := [], laidByText := true, laidKinds := [.widerDeep, .widerDeep], laidTests := true, laidLooks := .later }
def SyntaxJoinsCardSaid : Prop := Claim7.holds Tryd.pinned (.plain (OpenSpec.ofChange syntaxJoinsSpec)) syntaxJoinsCard

/-- THE TIED CARD OF 'rewindlaw04.SyntaxCuts'. -/
def syntaxCutsCard : Claim7 := { stood := { row := syntaxCutsRow, standIns := [], harness := (true, "abebc9e3d2012f8a3a6387e75e3cebb5988369673ac337af31cdbc509527c4ad"), looks := true }, kinds := [], alts := [], laidByText := true, laidKinds := [.widerDeep, .widerDeep], laidTests := true, laidLooks := .later }
def SyntaxCutsCardSaid : Prop := Claim7.holds Tryd.pinned (.plain (OpenSpec.ofChange syntaxCutsSpec)) syntaxCutsCard

/-- THE TIED CARD OF 'rewindlaw04.SyntaxLists'. -/
def syntaxListsCard : Claim7 := { stood := { row := syntaxListsRow, standIns := [], harness := (true, "abebc9e3d2012f8a3a6387e75e3cebb5988369673ac337af31cdbc509527c4ad"), looks := true }, kinds := [], alts := [], laidByText := true, laidKinds := [.widerDeep, .widerDeep], laidTests := true, laidLooks := .later }
def SyntaxListsCardSaid : Prop := Claim7.holds Tryd.pinned (.plain (OpenSpec.ofChange syntaxListsSpec)) syntaxListsCard

/-- THE TIED CARD OF 'rewindlaw04.SyntaxComments'. -/
def syntaxCommentsCard : Claim7 := { stood := { row := syntaxCommentsRow, standIns := [], harness := (true, "abebc9e3d2012f8a3a6387e75e3cebb5988369673ac337af31cdbc509527c4ad"), looks := true }, kinds := [], alts := [], laidByText := true, laidKinds := [.widerDeep, .widerDeep], laidTests := true, laidLooks := .later }
def SyntaxCommentsCardSaid : Prop := Claim7.holds Tryd.pinned (.plain (OpenSpec.ofChange syntaxCommentsSpec)) syntaxCommentsCard

/-- THE SECOND FORM's CARD OF 'rewindlaw04.SyntaxSpans'. -/
def syntaxSpansUptoCard : Claim7 := { stood := { row := syntaxSpansUptoRow, standIns := [], harness := (true, "abebc9e3d2012f8a3a6387e75e3cebb5988369673ac337af31cdbc509527c4ad"), looks := true }, kinds := [], alts := [], laidByText := true, laidKinds := [.widerDeep, .widerDeep], laidTests := true, laidLooks := .later }
def SyntaxSpansUptoCardSaid : Prop := Claim7.holds Tryd.pinned (.plain (OpenSpec.upto syntaxSpansSpec)) syntaxSpansUptoCard

/-- THE SECOND FORM's CARD OF 'rewindlaw04.SyntaxDeeps'. -/
def syntaxDeepsUptoCard : Claim7 := { stood := { row := syntaxDeepsUptoRow, standIns := [], harness := (true, "abebc9e3d2012f8a3a6387e75e3cebb5988369673ac337af31cdbc509527c4ad"), looks := true }, kinds := [], alts := [], laidByText := true, laidKinds := [.widerDeep, .widerDeep], laidTests := true, laidLooks := .later }
def SyntaxDeepsUptoCardSaid : Prop := Claim7.holds Tryd.pinned (.plain (OpenSpec.upto syntaxDeepsSpec)) syntaxDeepsUptoCard

/-- THE SECOND FORM's CARD OF 'rewindlaw04.SyntaxMany'. -/
def syntaxManyUptoCard : Claim7 := { stood := { row := syntaxManyUptoRow, standIns := [], harness := (true, "abebc9e3d2012f8a3a6387e75e3cebb5988369673ac337af31cdbc509527c4ad"), looks := true }, kinds := [], alts := [], laidByText := true, laidKinds := [.widerDeep, .widerDeep], laidTests := true, laidLooks := .later }
def SyntaxManyUptoCardSaid : Prop := Claim7.holds Tryd.pinned (.plain (OpenSpec.upto syntaxManySpec)) syntaxManyUptoCard

/-- THE SECOND FORM's CARD OF 'rewindlaw04.SyntaxJoins'. -/
def syntaxJoinsUptoCard : Claim7 := { stood := { row := syntaxJoinsUptoRow, standIns := [], harness := (true, "abebc9e3d2012f8a3a6387e75e3cebb5988369673ac337af31cdbc509527c4ad"), looks := true }, kinds := [], alts := [], laidByText := true, laidKinds := [.widerDeep, .widerDeep], laidTests := true, laidLooks := .later }
def SyntaxJoinsUptoCardSaid : Prop := Claim7.holds Tryd.pinned (.plain (OpenSpec.upto syntaxJoinsSpec)) syntaxJoinsUptoCard

/-- THE SECOND FORM's CARD OF 'rewindlaw04.SyntaxCuts'. -/
def syntaxCutsUptoCard : Claim7 := { stood := { row := syntaxCutsUptoRow, standIns := [], harness := (true, "abebc9e3d2012f8a3a6387e75e3cebb5988369673ac337af31cdbc509527c4ad"), looks := true }, kinds := [], alts := [], laidByText := true, laidKinds := [.widerDeep, .widerDeep], laidTests := true, laidLooks := .later }
def SyntaxCutsUptoCardSaid : Prop := Claim7.holds Tryd.pinned (.plain (OpenSpec.upto syntaxCutsSpec)) syntaxCutsUptoCard

/-- THE SECOND FORM's CARD OF 'rewindlaw04.SyntaxLists'. -/
def syntaxListsUptoCard : Claim7 := { stood := { row := syntaxListsUptoRow, standIns := [], harness := (true, "abebc9e3d2012f8a3a6387e75e3cebb5988369673ac337af31cdbc509527c4ad"), looks := true }, kinds := [], alts := [], laidByText := true, laidKinds := [.widerDeep, .widerDeep], laidTests := true, laidLooks := .later }
def SyntaxListsUptoCardSaid : Prop := Claim7.holds Tryd.pinned (.plain (OpenSpec.upto syntaxListsSpec)) syntaxListsUptoCard

/-- THE SECOND FORM's CARD OF 'rewindlaw04.SyntaxComments'. -/
def syntaxCommentsUptoCard : Claim7 := { stood := { row := syntaxCommentsUptoRow, standIns := [], harness := (true, "abebc9e3d2012f8a3a6387e75e3cebb5988369673ac337af31cdbc509527c4ad"), looks := true }, kinds := [], alts := [], laidByText := true, laidKinds := [.widerDeep, .widerDeep], laidTests := true, laidLooks := .later }
def SyntaxCommentsUptoCardSaid : Prop := Claim7.holds Tryd.pinned (.plain (OpenSpec.upto syntaxCommentsSpec)) syntaxCommentsUptoCard
end Rows
end Go.Proofs.YtgnkdeapifbgeaaDoor
