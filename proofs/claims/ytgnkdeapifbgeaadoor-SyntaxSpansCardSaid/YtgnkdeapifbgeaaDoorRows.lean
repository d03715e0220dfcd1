/-
  NARROWER THAN 'FOR EVERY INPUT', by the rows' own cells (each row's printed sentence says how): SyntaxSpans: laid · SyntaxDeeps: laid · SyntaxMany: laid · SyntaxJoins: laid · SyntaxCuts: laid · SyntaxLists: laid · SyntaxComments: laid.
  DERIVED. THE GIVEN ROWS OF THIS SEAT. 7 by the template 'for every input the law returns true; each argument reads behind the call as it read before'; 0 by the template 'total and deterministic' (their statements: YtgnkdeapifbgeaaDoorTotals.lean).
  GIVEN WITH THE SEED: the statements are not yours to turn. If you find one false, say at which input.
  Laid BY PROGRAM, IN A SANDBOX (cutbox-rows.mjs): the forced cells as the released guide's own fill.sh prints them over the translation 45412a4d5b672b57… (all of the seat's roots in one cut). By AI agents, Wed Nov 11 2026. No macro, syntax, notation, axiom, sorry.
-/
import Derived.Test.YtgnkdeapifbgeaaDoorChecked
import GoSem.Claim
import GoSem.ClaimJoined
import GoSem.ClaimMapViews
import Derived.JoinedTies
import Derived.KernelRfl
namespace Go.Proofs.YtgnkdeapifbgeaaDoor
/- THE CELL 'sum', in the pinned program and in every row, IS THE sha256 OF THE DUMP (.gsa) THAT YtgnkdeapifbgeaaDoorProg.lean LOADS. Nothing in Lean hashes anything: it is a label: what it is worth is what the hold of that sum in a sandbox is worth. -/
noncomputable def Tryd.pinned : Pinned := { name := "ytgnkdeapifbgeaadoor", sum := "45412a4d5b672b578a984bc2b6a1779f268c1edb7c3131b89be3810d8039ef13", checked := Tryd.checked }
namespace Rows
def none {H : Type} : Left H := { results := [], args := [] }

/- WHAT THE LISTED PACKAGE-LEVEL VARIABLES READ AS WHEN THE CALL BEGINS. Each datum BY PROGRAM (the guide's laid-datum.mjs) off the statement by which the dump's own 'gosem.cut.vars' lays the variable. In a bare row this is a premise. The card (YtgnkdeapifbgeaaDoorCards.lean) ties it to the program's text. -/
def laid_rewind_token_words {H : Type} : DataW H := .agg [.lit (.string [98, 114, 101, 97, 107]), .lit (.string [99, 111, 110, 116, 105, 110, 117, 101]), .lit (.string [101, 108, 115, 101]), .lit (.string [102, 97, 108, 115, 101]), .lit (.string [102, 117, 110, 99]), .lit (.string [105, 102]), .lit (.string [105, 110, 116]), .lit (.string [112, 114, 105, 110, 116]), .lit (.string [114, 101, 97, 100]), .lit (.string [114, 101, 116, 117, 114, 110]), .lit (.string [116, 114, 117, 101]), .lit (.string [118, 97, 114]), .lit (.string [119, 104, 105, 108, 101])]
def laid_rewind_token_pairs {H : Type} : DataW H := .agg [.lit (.string [61, 61]), .lit (.string [33, 61]), .lit (.string [60, 61]), .lit (.string [62, 61]), .lit (.string [38, 38]), .lit (.string [124, 124])]

/-- 'rewindlaw04.SyntaxSpans': WHATEVER THE INPUT: true; the input reads as it did. -/
def syntaxSpansSpec : ChangeSpec := { name := "syntaxSpans", fn := fun _ => fun
  | [d] => { results := [.lit (.bool true)], args := [d] }
  | _ => none }
def syntaxSpansRow : OpenClaim := { program := "ytgnkdeapifbgeaadoor", sum := "45412a4d5b672b578a984bc2b6a1779f268c1edb7c3131b89be3810d8039ef13", func := "rewind/rewindlaw04.SyntaxSpans", spec := "syntaxSpans", inPlace := ["internal/bytealg.IndexByteString"], unfollowed := true, recurses := true, named := ["rewind/token.words", "rewind/token.pairs"], apart := false, laid := [("rewind/token.words", laid_rewind_token_words), ("rewind/token.pairs", laid_rewind_token_pairs)] }
def SyntaxSpansSaid : Prop := syntaxSpansRow.holds Tryd.pinned (OpenSpec.ofChange syntaxSpansSpec)

/-- ITS FALSE NEIGHBOUR: 'it returns false'. Refute it at one input. -/
def syntaxSpansWrong : ChangeSpec := { name := "syntaxSpans", fn := fun _ => fun
  | [d] => { results := [.lit (.bool false)], args := [d] }
  | _ => none }
def SyntaxSpansWrongFalsely : Prop := syntaxSpansRow.holds Tryd.pinned (OpenSpec.ofChange syntaxSpansWrong)

/-- 'rewindlaw04.SyntaxDeeps': WHATEVER THE INPUT: true; the input reads as it did. -/
def syntaxDeepsSpec : ChangeSpec := { name := "syntaxDeeps", fn := fun _ => fun
  | [d1, d2] => { results := [.lit (.bool true)], args := [d1, d2] }
  | _ => none }
def syntaxDeepsRow : OpenClaim := { program := "ytgnkdeapifbgeaadoor", sum := "45412a4d5b672b578a984bc2b6a1779f268c1edb7c3131b89be3810d8039ef13", func := "rewind/rewindlaw04.SyntaxDeeps", spec := "syntaxDeeps", inPlace := ["internal/bytealg.IndexByteString"], unfollowed := true, recurses := true, named := ["rewind/token.words", "rewind/token.pairs"], apart := false, laid := [("rewind/token.words", laid_rewind_token_words), ("rewind/token.pairs", laid_rewind_token_pairs)] }
def SyntaxDeepsSaid : Prop := syntaxDeepsRow.holds Tryd.pinned (OpenSpec.ofChange syntaxDeepsSpec)

/-- ITS FALSE NEIGHBOUR: 'it returns false'. Refute it at one input. -/
def syntaxDeepsWrong : ChangeSpec := { name := "syntaxDeeps", fn := fun _ => fun
  | [d1, d2] => { results := [.lit (.bool false)], args := [d1, d2] }
  | _ => none }
def SyntaxDeepsWrongFalsely : Prop := syntaxDeepsRow.holds Tryd.pinned (OpenSpec.ofChange syntaxDeepsWrong)

/-- 'rewindlaw04.SyntaxMany': WHATEVER THE INPUT: true; the input reads as it did. -/
def syntaxManySpec : ChangeSpec := { name := "syntaxMany", fn := fun _ => fun
  | [d] => { results := [.lit (.bool true)], args := [d] }
  | _ => none }
def syntaxManyRow : OpenClaim := { program := "ytgnkdeapifbgeaadoor", sum := "45412a4d5b672b578a984bc2b6a1779f268c1edb7c3131b89be3810d8039ef13", func := "rewind/rewindlaw04.SyntaxMany", spec := "syntaxMany", inPlace := ["internal/bytealg.IndexByteString"], unfollowed := true, recurses := true, named := ["rewind/token.words", "rewind/token.pairs"], apart := false, laid := [("rewind/token.words", laid_rewind_token_words), ("rewind/token.pairs", laid_rewind_token_pairs)] }
def SyntaxManySaid : Prop := syntaxManyRow.holds Tryd.pinned (OpenSpec.ofChange syntaxManySpec)

/-- ITS FALSE NEIGHBOUR: 'it returns false'. Refute it at one input. -/
def syntaxManyWrong : ChangeSpec := { name := "syntaxMany", fn := fun _ => fun
  | [d] => { results := [.lit (.bool false)], args := [d] }
  | _ => none }
def SyntaxManyWrongFalsely : Prop := syntaxManyRow.holds Tryd.pinned (OpenSpec.ofChange syntaxManyWrong)

/-- 'rewindlaw04.SyntaxJoins': WHATEVER THE INPUT: true; the input reads as it did. -/
def syntaxJoinsSpec : ChangeSpec := { name := "syntaxJoins", fn := fun _ => fun
  | [d1, d2] => { results := [.lit (.bool true)], args := [d1, d2] }
  | _ => none }
def syntaxJoinsRow : OpenClaim := { program := "ytgnkdeapifbgeaadoor", sum := "45412a4d5b672b578a984bc2b6a1779f268c1edb7c3131b89be3810d8039ef13", func := "rewind/rewindlaw04.SyntaxJoins", spec := "syntaxJoins", inPlace := ["internal/bytealg.IndexByteString"], unfollowed := true, recurses := true, named := ["rewind/token.words", "rewind/token.pairs"], apart := false, laid := [("rewind/token.words", laid_rewind_token_words), ("rewind/token.pairs", laid_rewind_token_pairs)] }
def SyntaxJoinsSaid : Prop := syntaxJoinsRow.holds Tryd.pinned (OpenSpec.ofChange syntaxJoinsSpec)

/-- ITS FALSE NEIGHBOUR: 'it returns false'. Refute it at one input. -/
def syntaxJoinsWrong : ChangeSpec := { name := "syntaxJoins", fn := fun _ => fun
  | [d1, d2] => { results := [.lit (.bool false)], args := [d1, d2] }
  | _ => none }
def SyntaxJoinsWrongFalsely : Prop := syntaxJoinsRow.holds Tryd.pinned (OpenSpec.ofChange syntaxJoinsWrong)

/-- 'rewindlaw04.SyntaxCuts': WHATEVER THE INPUT: true; the input reads as it did. -/
def syntaxCutsSpec : ChangeSpec := { name := "syntaxCuts", fn := fun _ => fun
  | [d1, d2] => { results := [.lit (.bool true)], args := [d1, d2] }
  | _ => none }
def syntaxCutsRow : OpenClaim := { program := "ytgnkdeapifbgeaadoor", sum := "45412a4d5b672b578a984bc2b6a1779f268c1edb7c3131b89be3810d8039ef13", func := "rewind/rewindlaw04.SyntaxCuts", spec := "syntaxCuts", inPlace := ["internal/bytealg.IndexByteString"], unfollowed := true, recurses := true, named := ["rewind/token.words", "rewind/token.pairs"], apart := false, laid := [("rewind/token.words", laid_rewind_token_words), ("rewind/token.pairs", laid_rewind_token_pairs)] }
def SyntaxCutsSaid : Prop := syntaxCutsRow.holds Tryd.pinned (OpenSpec.ofChange syntaxCutsSpec)

/-- ITS FALSE NEIGHBOUR: 'it returns false'. Refute it at one input. -/
def syntaxCutsWrong : ChangeSpec := { name := "syntaxCuts", fn := fun _ => fun
  | [d1, d2] => { results := [.lit (.bool false)], args := [d1, d2] }
  | _ => none }
def SyntaxCutsWrongFalsely : Prop := syntaxCutsRow.holds Tryd.pinned (OpenSpec.ofChange syntaxCutsWrong)

/-- 'rewindlaw04.SyntaxLists': WHATEVER THE INPUT: true; the input reads as it did. -/
def syntaxListsSpec : ChangeSpec := { name := "syntaxLists", fn := fun _ => fun
  | [d1, d2] => { results := [.lit (.bool true)], args := [d1, d2] }
  | _ => none }
def syntaxListsRow : OpenClaim := { program := "ytgnkdeapifbgeaadoor", sum := "45412a4d5b672b578a984bc2b6a1779f268c1edb7c3131b89be3810d8039ef13", func := "rewind/rewindlaw04.SyntaxLists", spec := "syntaxLists", inPlace := ["internal/bytealg.IndexByteString"], unfollowed := true, recurses := true, named := ["rewind/token.words", "rewind/token.pairs"], apart := false, laid := [("rewind/token.words", laid_rewind_token_words), ("rewind/token.pairs", laid_rewind_token_pairs)] }
def SyntaxListsSaid : Prop := syntaxListsRow.holds Tryd.pinned (OpenSpec.ofChange syntaxListsSpec)

/-- ITS FALSE NEIGHBOUR: 'it returns false'. Refute it at one input. -/
def syntaxListsWrong : ChangeSpec := { name := "syntaxLists", fn := fun _ => fun
  | [d1, d2] => { results := [.lit (.bool false)], args := [d1, d2] }
  | _ => none }
def SyntaxListsWrongFalsely : Prop := syntaxListsRow.holds Tryd.pinned (OpenSpec.ofChange syntaxListsWrong)

/-- 'rewindlaw04.SyntaxComments': WHATEVER THE INPUT: true; the input reads as it did. -/
def syntaxCommentsSpec : ChangeSpec := { name := "syntaxComments", fn := fun _ => fun
  | [d1, d2] => { results := [.lit (.bool true)], args := [d1, d2] }
  | _ => none }
def syntaxCommentsRow : OpenClaim := { program := "ytgnkdeapifbgeaadoor", sum := "45412a4d5b672b578a984bc2b6a1779f268c1edb7c3131b89be3810d8039ef13", func := "rewind/rewindlaw04.SyntaxComments", spec := "syntaxComments", inPlace := ["internal/bytealg.IndexByteString"], unfollowed := true, recurses := true, named := ["rewind/token.words", "rewind/token.pairs"], apart := false, laid := [("rewind/token.words", laid_rewind_token_words), ("rewind/token.pairs", laid_rewind_token_pairs)] }
def SyntaxCommentsSaid : Prop := syntaxCommentsRow.holds Tryd.pinned (OpenSpec.ofChange syntaxCommentsSpec)

/-- ITS FALSE NEIGHBOUR: 'it returns false'. Refute it at one input. -/
def syntaxCommentsWrong : ChangeSpec := { name := "syntaxComments", fn := fun _ => fun
  | [d1, d2] => { results := [.lit (.bool false)], args := [d1, d2] }
  | _ => none }
def SyntaxCommentsWrongFalsely : Prop := syntaxCommentsRow.holds Tryd.pinned (OpenSpec.ofChange syntaxCommentsWrong)

/- THE SECOND FORM. 'bulk': how many values and letters a reading holds, each counted each time it is reached (what is shared counts as often as it is met; a slice's spare places count too). A statement '..UptoSaid' is the law's where the arguments, and the package variables that the reading takes, are together of bulk at most 1048576: NARROWER than '..Said'. Prove '..Said' where nothing that the law and all that it calls make is longer than what came in: it says more and counts as full. Else prove '..UptoSaid'. A law counts once. -/
mutual
def uptoBulk {H : Type} : DataW H → Nat
  | .lit (.string bytes) => bytes.length + 1
  | .lit _ => 1
  | .nil => 1
  | .ptr d => uptoBulk d + 1
  | .slice elems spare => uptoBulkAll elems + uptoBulkAll spare + 1
  | .agg parts => uptoBulkAll parts + 1
  | .iface _ d => uptoBulk d + 1
  | .map entries => uptoBulkEntries entries + 1
  | .held _ => 1
def uptoBulkAll {H : Type} : List (DataW H) → Nat
  | [] => 0
  | d :: r => uptoBulk d + uptoBulkAll r
def uptoBulkEntries {H : Type} : List (Lit × DataW H) → Nat
  | [] => 0
  | x :: r => uptoBulkEntry x + uptoBulkEntries r
def uptoBulkEntry {H : Type} : Lit × DataW H → Nat
  | (.string bytes, d) => bytes.length + uptoBulk d + 1
  | (_, d) => uptoBulk d + 1
 end
def uptoSmall : (H : Type) → List (DataW H) → Bool := fun _ ds => decide (uptoBulkAll ds ≤ 1048576)
def OpenSpec.upto (s : _root_.Go.ChangeSpec) : _root_.Go.OpenSpec := { _root_.Go.OpenSpec.ofChange s with cond := some uptoSmall }

/-- 'rewindlaw04.SyntaxSpans', WHERE WHAT IT READS IS OF BULK AT MOST 1048576: true; the input reads as it did. -/
def syntaxSpansUptoRow : OpenClaim := { program := "ytgnkdeapifbgeaadoor", sum := "45412a4d5b672b578a984bc2b6a1779f268c1edb7c3131b89be3810d8039ef13", func := "rewind/rewindlaw04.SyntaxSpans", spec := "syntaxSpans", inPlace := ["internal/bytealg.IndexByteString"], unfollowed := true, recurses := true, named := ["rewind/token.words", "rewind/token.pairs"], apart := false, laid := [("rewind/token.words", laid_rewind_token_words), ("rewind/token.pairs", laid_rewind_token_pairs)], narrowed := true }
def SyntaxSpansUptoSaid : Prop := syntaxSpansUptoRow.holds Tryd.pinned (OpenSpec.upto syntaxSpansSpec)

/-- 'rewindlaw04.SyntaxDeeps', WHERE WHAT IT READS IS OF BULK AT MOST 1048576: true; the input reads as it did. -/
def syntaxDeepsUptoRow : OpenClaim := { program := "ytgnkdeapifbgeaadoor", sum := "45412a4d5b672b578a984bc2b6a1779f268c1edb7c3131b89be3810d8039ef13", func := "rewind/rewindlaw04.SyntaxDeeps", spec := "syntaxDeeps", inPlace := ["internal/bytealg.IndexByteString"], unfollowed := true, recurses := true, named := ["rewind/token.words", "rewind/token.pairs"], apart := false, laid := [("rewind/token.words", laid_rewind_token_words), ("rewind/token.pairs", laid_rewind_token_pairs)], narrowed := true }
def SyntaxDeepsUptoSaid : Prop := syntaxDeepsUptoRow.holds Tryd.pinned (OpenSpec.upto syntaxDeepsSpec)

/-- 'rewindlaw04.SyntaxMany', WHERE WHAT IT READS IS OF BULK AT MOST 1048576: true; the input reads as it did. -/
def syntaxManyUptoRow : OpenClaim := { program := "ytgnkdeapifbgeaadoor", sum := "45412a4d5b672b578a984bc2b6a1779f268c1edb7c3131b89be3810d8039ef13", func := "rewind/rewindlaw04.SyntaxMany", spec := "syntaxMany", inPlace := ["internal/bytealg.IndexByteString"], unfollowed := true, recurses := true, named := ["rewind/token.words", "rewind/token.pairs"], apart := false, laid := [("rewind/token.words", laid_rewind_token_words), ("rewind/token.pairs", laid_rewind_token_pairs)], narrowed := true }
def SyntaxManyUptoSaid : Prop := syntaxManyUptoRow.holds Tryd.pinned (OpenSpec.upto syntaxManySpec)

/-- 'rewindlaw04.SyntaxJoins', WHERE WHAT IT READS IS OF BULK AT MOST 1048576: true; the input reads as it did. -/
def syntaxJoinsUptoRow : OpenClaim := { program := "ytgnkdeapifbgeaadoor", sum := "45412a4d5b672b578a984bc2b6a1779f268c1edb7c3131b89be3810d8039ef13", func := "rewind/rewindlaw04.SyntaxJoins", spec := "syntaxJoins", inPlace := ["internal/bytealg.IndexByteString"], unfollowed := true, recurses := true, named := ["rewind/token.words", "rewind/token.pairs"], apart := false, laid := [("rewind/token.words", laid_rewind_token_words), ("rewind/token.pairs", laid_rewind_token_pairs)], narrowed := true }
def SyntaxJoinsUptoSaid : Prop := syntaxJoinsUptoRow.holds Tryd.pinned (OpenSpec.upto syntaxJoinsSpec)

/-- 'rewindlaw04.SyntaxCuts', WHERE WHAT IT READS IS OF BULK AT MOST 1048576: true; the input reads as it did. -/
def syntaxCutsUptoRow : OpenClaim := { program := "ytgnkdeapifbgeaadoor", sum := "45412a4d5b672b578a984bc2b6a1779f268c1edb7c3131b89be3810d8039ef13", func := "rewind/rewindlaw04.SyntaxCuts", spec := "syntaxCuts", inPlace := ["internal/bytealg.IndexByteString"], unfollowed := true, recurses := true, named := ["rewind/token.words", "rewind/token.pairs"], apart := false, laid := [("rewind/token.words", laid_rewind_token_words), ("rewind/token.pairs", laid_rewind_token_pairs)], narrowed := true }
def SyntaxCutsUptoSaid : Prop := syntaxCutsUptoRow.holds Tryd.pinned (OpenSpec.upto syntaxCutsSpec)

/-- 'rewindlaw04.SyntaxLists', WHERE WHAT IT READS IS OF BULK AT MOST 1048576: true; the input reads as it did. -/
def syntaxListsUptoRow : OpenClaim := { program := "ytgnkdeapifbgeaadoor", sum := "45412a4d5b672b578a984bc2b6a1779f268c1edb7c3131b89be3810d8039ef13", func := "rewind/rewindlaw04.SyntaxLists", spec := "syntaxLists", inPlace := ["internal/bytealg.IndexByteString"], unfollowed := true, recurses := true, named := ["rewind/token.words", "rewind/token.pairs"], apart := false, laid := [("rewind/token.words", laid_rewind_token_words), ("rewind/token.pairs", laid_rewind_token_pairs)], narrowed := true }
def SyntaxListsUptoSaid : Prop := syntaxListsUptoRow.holds Tryd.pinned (OpenSpec.upto syntaxListsSpec)

/-- 'rewindlaw04.SyntaxComments', WHERE WHAT IT READS IS OF BULK AT MOST 1048576: true; the input reads as it did. -/
def syntaxCommentsUptoRow : OpenClaim := { program := "ytgnkdeapifbgeaadoor", sum := "45412a4d5b672b578a984bc2b6a1779f268c1edb7c3131b89be3810d8039ef13", func := "rewind/rewindlaw04.SyntaxComments", spec := "syntaxComments", inPlace := ["internal/bytealg.IndexByteString"], unfollowed := true, recurses := true, named := ["rewind/token.words", "rewind/token.pairs"], apart := false, laid := [("rewind/token.words", laid_rewind_token_words), ("rewind/token.pairs", laid_rewind_token_pairs)], narrowed := true }
def SyntaxCommentsUptoSaid : Prop := syntaxCommentsUptoRow.holds Tryd.pinned (OpenSpec.upto syntaxCommentsSpec)

end Rows
end Go.Proofs.YtgnkdeapifbgeaaDoor
