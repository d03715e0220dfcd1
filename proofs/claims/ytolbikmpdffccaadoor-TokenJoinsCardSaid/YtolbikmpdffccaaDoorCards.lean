/-
  DERIVED. GIVEN WITH THE SEED: THE CARDS: each row of YtolbikmpdffccaaDoorRows.lean that lists a variable, with what it lists TIED to the program's text (the seventh form; the later family's looks); each row that meets fmt, with fmt's text TOLD by the authors' own Lean function (tested against real Go, not proved from fmt's source: count such statements apart). THE CARD IS WHAT COUNTS. Prove the row's statement (the work); the ties are given (YtolbikmpdffccaaDoorTie.lean); close each card by the builder's one call (the guide's Derived/Test/ToyasCard.lean, 'card_holds'). Laid BY PROGRAM, IN A SANDBOX (cutbox-door.mjs). By AI agents, Wed Nov 11 2026. No macro, syntax, notation, axiom, sorry.
-/
import Derived.Test.YtolbikmpdffccaaDoorRows
import GoSem.ClaimSeven
namespace Go.Proofs.YtolbikmpdffccaaDoor
namespace Rows

/-- THE TIED CARD OF 'rewindlaw02.TokenAlls'. -/
def tokenAllsCard : Claim7 := { stood := { row := tokenAllsRow, standIns := [], harness := (true, "53f86d8f1366a9fdc6ba26a0671207905cb2d1b4032f781c94e0aa81282d369a"), looks := false }, kinds := [], alts := [], laidByText := true, laidKinds := [.widerDeep, .widerDeep], laidTests := true, laidLooks := .later }
def TokenAllsCardSaid : Prop := Claim7.holds Tryd.pinned (.plain (OpenSpec.ofChange tokenAllsSpec)) tokenAllsCard

/-- THE TIED CARD OF 'rewindlaw02.TokenNexts'. -/
def tokenNextsCard : Claim7 := { stood := { row := tokenNextsRow, standIns := [], harness := (true, "53f86d8f1366a9fdc6ba26a0671207905cb2d1b4032f781c94e0aa81282d369a"), looks := false }, kinds := [], alts := [], laidByText := true, laidKinds := [.widerDeep, .widerDeep], laidTests := true, laidLooks := .later }
def TokenNextsCardSaid : Prop := Claim7.holds Tryd.pinned (.plain (OpenSpec.ofChange tokenNextsSpec)) tokenNextsCard

/-- THE TIED CARD OF 'rewindlaw02.TokenLongs'. -/
def tokenLongsCard : Claim7 := { stood := { row := tokenLongsRow, standIns := [], harness := (true, "53f86d8f1366a9fdc6ba26a0671207905cb2d1b4032f781c94e0aa81282d369a"), looks := false }, kinds := [], alts := [], laidByText := true, laidKinds := [.widerDeep, .widerDeep], laidTests := true, laidLooks := .later }
def TokenLongsCardSaid : Prop := Claim7.holds Tryd.pinned (.plain (OpenSpec.ofChange tokenLongsSpec)) tokenLongsCard

/-- THE TIED CARD OF 'rewindlaw02.TokenGoes'. -/
def tokenGoesCard : Claim7 := { stood := { row := tokenGoesRow, standIns := [], harness := (true, "53f86d8f1366a9fdc6ba26a0671207905cb2d1b4032f781c94e0aa81282d369a"), looks := false }, kinds := [], alts := [], laidByText := true, laidKinds := [.widerDeep, .widerDeep], laidTests := true, laidLooks := .later }
def TokenGoesCardSaid : Prop := Claim7.holds Tryd.pinned (.plain (OpenSpec.ofChange tokenGoesSpec)) tokenGoesCard

/-- THE TIED CARD OF 'rewindlaw02.TokenNumbers'. -/
def tokenNumbersCard : Claim7 := { stood := { row := tokenNumbersRow, standIns := [], harness := (true, "53f86d8f1366a9fdc6ba26a0671207905cb2d1b4032f781c94e0aa81282d369a"), looks := false }, kinds := [], alts := [], laidByText := true, laidKinds := [.widerDeep, .widerDeep], laidTests := true, laidLooks := .later }
def TokenNumbersCardSaid : Prop := Claim7.holds Tryd.pinned (.plain (OpenSpec.ofChange tokenNumbersSpec)) tokenNumbersCard

/-- THE TIED CARD OF 'rewindlaw02.TokenSpans'. -/
def tokenSpansCard : Claim7 := { stood := { row := tokenSpansRow, standIns := [], harness := (true, "53f86d8f1366a9fdc6ba26a0671207905cb2d1b4032f781c94e0aa81282d369a"), looks := false }, kinds := [], alts := [], laidByText := true, laidKinds := [.widerDeep, .widerDeep], laidTests := true, laidLooks := .later }
def TokenSpansCardSaid : Prop := Claim7.holds Tryd.pinned (.plain (OpenSpec.ofChange tokenSpansSpec)) tokenSpansCard

/-- THE TIED CARD OF 'rewindlaw02.TokenJoins'. -/
def tokenJoinsCard : Claim7 := { stood := { row := tokenJoinsRow, standIns := [], harness := (true, "53f86d8f1366a9fdc6ba26a0671207905cb2d1b4032f781c94e0aa81282d369a"), looks := false }, kinds := [], alts := [], laidByText := true, laidKinds := [.widerDeep, .widerDeep], laidTests := true, laidLooks := .later }
def TokenJoinsCardSaid : Prop := Claim7.holds Tryd.pinned (.plain (OpenSpec.ofChange tokenJoinsSpec)) tokenJoinsCard

/-- THE TIED CARD OF 'rewindlaw02.TokenWords'. -/
def tokenWordsCard : Claim7 := { stood := { row := tokenWordsRow, standIns := [], harness := (true, "53f86d8f1366a9fdc6ba26a0671207905cb2d1b4032f781c94e0aa81282d369a"), looks := false }, kinds := [], alts := [], laidByText := true, laidKinds := [.widerDeep, .widerDeep], laidTests := true, laidLooks := .later }
def TokenWordsCardSaid : Prop := Claim7.holds Tryd.pinned (.plain (OpenSpec.ofChange tokenWordsSpec)) tokenWordsCard

/-- THE TIED CARD OF 'rewindlaw02.TokenNames'. -/
def tokenNamesCard : Claim7 := { stood := { row := tokenNamesRow, standIns := [], harness := (true, "53f86d8f1366a9fdc6ba26a0671207905cb2d1b4032f781c94e0aa81282d369a"), looks := false }, kinds := [], alts := [], laidByText := true, laidKinds := [.widerDeep, .widerDeep], laidTests := true, laidLooks := .later }
def TokenNamesCardSaid : Prop := Claim7.holds Tryd.pinned (.plain (OpenSpec.ofChange tokenNamesSpec)) tokenNamesCard

/-- THE SECOND FORM's CARD OF 'rewindlaw02.TokenAlls'. -/
def tokenAllsUptoCard : Claim7 := { stood := { row := tokenAllsUptoRow, standIns := [], harness := (true, "53f86d8f1366a9fdc6ba26a0671207905cb2d1b4032f781c94e0aa81282d369a"), looks := false }, kinds := [], alts := [], laidByText := true, laidKinds := [.widerDeep, .widerDeep], laidTests := true, laidLooks := .later }
def TokenAllsUptoCardSaid : Prop := Claim7.holds Tryd.pinned (.plain (OpenSpec.upto tokenAllsSpec)) tokenAllsUptoCard

/-- THE SECOND FORM's CARD OF 'rewindlaw02.TokenNexts'. -/
def tokenNextsUptoCard : Claim7 := { stood := { row := tokenNextsUptoRow, standIns := [], harness := (true, "53f86d8f1366a9fdc6ba26a0671207905cb2d1b4032f781c94e0aa81282d369a"), looks := false }, kinds := [], alts := [], laidByText := true, laidKinds := [.widerDeep, .widerDeep], laidTests := true, laidLooks := .later }
def TokenNextsUptoCardSaid : Prop := Claim7.holds Tryd.pinned (.plain (OpenSpec.upto tokenNextsSpec)) tokenNextsUptoCard

/-- THE SECOND FORM's CARD OF 'rewindlaw02.TokenLongs'. -/
def tokenLongsUptoCard : Claim7 := { stood := { row := tokenLongsUptoRow, standIns := [], harness := (true, "53f86d8f1366a9fdc6ba26a0671207905cb2d1b4032f781c94e0aa81282d369a"), looks := false }, kinds := [], alts := [], laidByText := true, laidKinds := [.widerDeep, .widerDeep], laidTests := true, laidLooks := .later }
def TokenLongsUptoCardSaid : Prop := Claim7.holds Tryd.pinned (.plain (OpenSpec.upto tokenLongsSpec)) tokenLongsUptoCard

/-- THE SECOND FORM's CARD OF 'rewindlaw02.TokenGoes'. -/
def tokenGoesUptoCard : Claim7 := { stood := { row := tokenGoesUptoRow, standIns := [], harness := (true, "53f86d8f1366a9fdc6ba26a0671207905cb2d1b4032f781c94e0aa81282d369a"), looks := false }, kinds := [], alts := [], laidByText := true, laidKinds := [.widerDeep, .widerDeep], laidTests := true, laidLooks := .later }
def TokenGoesUptoCardSaid : Prop := Claim7.holds Tryd.pinned (.plain (OpenSpec.upto tokenGoesSpec)) tokenGoesUptoCard

/-- THE SECOND FORM's CARD OF 'rewindlaw02.TokenNumbers'. -/
def tokenNumbersUptoCard : Claim7 := { stood := { row := tokenNumbersUptoRow, standIns := [], harness := (true, "53f86d8f1366a9fdc6ba26a0671207905cb2d1b4032f781c94e0aa81282d369a"), looks := false }, kinds := [], alts := [], laidByText := true, laidKinds := [.widerDeep, .widerDeep], laidTests := true, laidLooks := .later }
def TokenNumbersUptoCardSaid : Prop := Claim7.holds Tryd.pinned (.plain (OpenSpec.upto tokenNumbersSpec)) tokenNumbersUptoCard

/-- THE SECOND FORM's CARD OF 'rewindlaw02.TokenSpans'. -/
def tokenSpansUptoCard : Claim7 := { stood := { row := tokenSpansUptoRow, standIns := [], harness := (true, "53f86d8f1366a9fdc6ba26a0671207905cb2d1b4032f781c94e0aa81282d369a"), looks := false }, kinds := [], alts := [], laidByText := true, laidKinds := [.widerDeep, .widerDeep], laidTests := true, laidLooks := .later }
def TokenSpansUptoCardSaid : Prop := Claim7.holds Tryd.pinned (.plain (OpenSpec.upto tokenSpansSpec)) tokenSpansUptoCard

/-- THE SECOND FORM's CARD OF 'rewindlaw02.TokenJoins'. -/
def tokenJoinsUptoCard : Claim7 := { stood := { row := tokenJoinsUptoRow, standIns := [], harness := (true, "53f86d8f1366a9fdc6ba26a0671207905cb2d1b4032f781c94e0aa81282d369a"), looks := false }, kinds := [], alts := [], laidByText := true, laidKinds := [.widerDeep, .widerDeep], laidTests := true, laidLooks := .later }
def TokenJoinsUptoCardSaid : Prop := Claim7.holds Tryd.pinned (.plain (OpenSpec.upto tokenJoinsSpec)) tokenJoinsUptoCard

/-- THE SECOND FORM's CARD OF 'rewindlaw02.TokenWords'. -/
def tokenWordsUptoCard : Claim7 := { stood := { row := tokenWordsUptoRow, standIns := [], harness := (true, "53f86d8f1366a9fdc6ba26a0671207905cb2d1b4032f781c94e0aa81282d369a"), looks := false }, kinds := [], alts := [], laidByText := true, laidKinds := [.widerDeep, .widerDeep], laidTests := true, laidLooks := .later }
def TokenWordsUptoCardSaid : Prop := Claim7.holds Tryd.pinned (.plain (OpenSpec.upto tokenWordsSpec)) tokenWordsUptoCard

/-- THE SECOND FORM's CARD OF 'rewindlaw02.TokenNames'. -/
def tokenNamesUptoCard : Claim7 := { stood := { row := tokenNamesUptoRow, standIns := [], harness := (true, "53f86d8f1366a9fdc6ba26a0671207905cb2d1b4032f781c94e0aa81282d369a"), looks := false }, kinds := [], alts := [], laidByText := true, laidKinds := [.widerDeep, .widerDeep], laidTests := true, laidLooks := .later }
def TokenNamesUptoCardSaid : Prop := Claim7.holds Tryd.pinned (.plain (OpenSpec.upto tokenNamesSpec)) tokenNamesUptoCard
end Rows
end Go.Proofs.YtolbikmpdffccaaDoor
