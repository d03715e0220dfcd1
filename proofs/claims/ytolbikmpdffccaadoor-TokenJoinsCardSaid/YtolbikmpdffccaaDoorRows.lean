/-
  NARROWER THAN 'FOR EVERY INPUT', by the rows' own cells (each row's printed sentence says how): TokenAlls: laid · TokenNexts: laid · TokenLongs: laid · TokenGoes: laid · TokenNumbers: laid · TokenSpans: laid · TokenJoins: laid · TokenWords: laid · TokenNames: laid.
  DERIVED. THE GIVEN ROWS OF THIS SEAT. 9 by the template 'for every input the law returns true; each argument reads behind the call as it read before'; 0 by the template 'total and deterministic' (their statements: YtolbikmpdffccaaDoorTotals.lean).
  GIVEN WITH THE SEED: the statements are not yours to turn. If you find one false, say at which input.
  Laid BY PROGRAM, IN A SANDBOX (cutbox-rows.mjs): the forced cells as the released guide's own fill.sh prints them over the translation 7c8c0c6c29d7ceca… (all of the seat's roots in one cut). By AI agents, Wed Nov 11 2026. No macro, syntax, notation, axiom, sorry.
-/
import Derived.Test.YtolbikmpdffccaaDoorChecked
import GoSem.Claim
import GoSem.ClaimJoined
import GoSem.ClaimMapViews
import Derived.JoinedTies
import Derived.KernelRfl
namespace Go.Proofs.YtolbikmpdffccaaDoor
/- THE CELL 'sum', in the pinned program and in every row, IS THE sha256 OF THE DUMP (.gsa) THAT YtolbikmpdffccaaDoorProg.lean LOADS. Nothing in Lean hashes anything: it is a label: what it is worth is what the hold of that sum in a sandbox is worth. -/
noncomputable def Tryd.pinned : Pinned := { name := "ytolbikmpdffccaadoor", sum := "7c8c0c6c29d7ceca95d58d5bc4364967e0b8148f71ff7cd7777a723556882a94", checked := Tryd.checked }
namespace Rows
def none {H : Type} : Left H := { results := [], args := [] }

/- WHAT THE LISTED PACKAGE-LEVEL VARIABLES READ AS WHEN THE CALL BEGINS. Each datum BY PROGRAM (the guide's laid-datum.mjs) off the statement by which the dump's own 'gosem.cut.vars' lays the variable. In a bare row this is a premise. The card (YtolbikmpdffccaaDoorCards.lean) ties it to the program's text. -/
def laid_rewind_token_words {H : Type} : DataW H := .agg [.lit (.string [98, 114, 101, 97, 107]), .lit (.string [99, 111, 110, 116, 105, 110, 117, 101]), .lit (.string [101, 108, 115, 101]), .lit (.string [102, 97, 108, 115, 101]), .lit (.string [102, 117, 110, 99]), .lit (.string [105, 102]), .lit (.string [105, 110, 116]), .lit (.string [112, 114, 105, 110, 116]), .lit (.string [114, 101, 97, 100]), .lit (.string [114, 101, 116, 117, 114, 110]), .lit (.string [116, 114, 117, 101]), .lit (.string [118, 97, 114]), .lit (.string [119, 104, 105, 108, 101])]
def laid_rewind_token_pairs {H : Type} : DataW H := .agg [.lit (.string [61, 61]), .lit (.string [33, 61]), .lit (.string [60, 61]), .lit (.string [62, 61]), .lit (.string [38, 38]), .lit (.string [124, 124])]

/-- 'rewindlaw02.TokenAlls': WHATEVER THE INPUT: true; the input reads as it did. -/
def tokenAllsSpec : ChangeSpec := { name := "tokenAlls", fn := fun _ => fun
  | [d] => { results := [.lit (.bool true)], args := [d] }
  | _ => none }
def tokenAllsRow : OpenClaim := { program := "ytolbikmpdffccaadoor", sum := "7c8c0c6c29d7ceca95d58d5bc4364967e0b8148f71ff7cd7777a723556882a94", func := "rewind/rewindlaw02.TokenAlls", spec := "tokenAlls", inPlace := ["internal/bytealg.IndexByteString"], unfollowed := true, recurses := true, named := ["rewind/token.words", "rewind/token.pairs"], apart := false, laid := [("rewind/token.words", laid_rewind_token_words), ("rewind/token.pairs", laid_rewind_token_pairs)] }
def TokenAllsSaid : Prop := tokenAllsRow.holds Tryd.pinned (OpenSpec.ofChange tokenAllsSpec)

/-- ITS FALSE NEIGHBOUR: 'it returns false'. Refute it at one input. -/
def tokenAllsWrong : ChangeSpec := { name := "tokenAlls", fn := fun _ => fun
  | [d] => { results := [.lit (.bool false)], args := [d] }
  | _ => none }
def TokenAllsWrongFalsely : Prop := tokenAllsRow.holds Tryd.pinned (OpenSpec.ofChange tokenAllsWrong)

/-- 'rewindlaw02.TokenNexts': WHATEVER THE INPUT: true; the input reads as it did. -/
def tokenNextsSpec : ChangeSpec := { name := "tokenNexts", fn := fun _ => fun
  | [d1, d2] => { results := [.lit (.bool true)], args := [d1, d2] }
  | _ => none }
def tokenNextsRow : OpenClaim := { program := "ytolbikmpdffccaadoor", sum := "7c8c0c6c29d7ceca95d58d5bc4364967e0b8148f71ff7cd7777a723556882a94", func := "rewind/rewindlaw02.TokenNexts", spec := "tokenNexts", inPlace := ["internal/bytealg.IndexByteString"], unfollowed := true, recurses := true, named := ["rewind/token.words", "rewind/token.pairs"], apart := false, laid := [("rewind/token.words", laid_rewind_token_words), ("rewind/token.pairs", laid_rewind_token_pairs)] }
def TokenNextsSaid : Prop := tokenNextsRow.holds Tryd.pinned (OpenSpec.ofChange tokenNextsSpec)

/-- ITS FALSE NEIGHBOUR: 'it returns false'. Refute it at one input. -/
def tokenNextsWrong : ChangeSpec := { name := "tokenNexts", fn := fun _ => fun
  | [d1, d2] => { results := [.lit (.bool false)], args := [d1, d2] }
  | _ => none }
def TokenNextsWrongFalsely : Prop := tokenNextsRow.holds Tryd.pinned (OpenSpec.ofChange tokenNextsWrong)

/-- 'rewindlaw02.TokenLongs': WHATEVER THE INPUT: true; the input reads as it did. -/
def tokenLongsSpec : ChangeSpec := { name := "tokenLongs", fn := fun _ => fun
  | [d] => { results := [.lit (.bool true)], args := [d] }
  | _ => none }
def tokenLongsRow : OpenClaim := { program := "ytolbikmpdffccaadoor", sum := "7c8c0c6c29d7ceca95d58d5bc4364967e0b8148f71ff7cd7777a723556882a94", func := "rewind/rewindlaw02.TokenLongs", spec := "tokenLongs", inPlace := ["internal/bytealg.IndexByteString"], unfollowed := true, recurses := true, named := ["rewind/token.words", "rewind/token.pairs"], apart := false, laid := [("rewind/token.words", laid_rewind_token_words), ("rewind/token.pairs", laid_rewind_token_pairs)] }
def TokenLongsSaid : Prop := tokenLongsRow.holds Tryd.pinned (OpenSpec.ofChange tokenLongsSpec)

/-- ITS FALSE NEIGHBOUR: 'it returns false'. Refute it at one input. -/
def tokenLongsWrong : ChangeSpec := { name := "tokenLongs", fn := fun _ => fun
  | [d] => { results := [.lit (.bool false)], args := [d] }
  | _ => none }
def TokenLongsWrongFalsely : Prop := tokenLongsRow.holds Tryd.pinned (OpenSpec.ofChange tokenLongsWrong)

/-- 'rewindlaw02.TokenGoes': WHATEVER THE INPUT: true; the input reads as it did. -/
def tokenGoesSpec : ChangeSpec := { name := "tokenGoes", fn := fun _ => fun
  | [d1, d2] => { results := [.lit (.bool true)], args := [d1, d2] }
  | _ => none }
def tokenGoesRow : OpenClaim := { program := "ytolbikmpdffccaadoor", sum := "7c8c0c6c29d7ceca95d58d5bc4364967e0b8148f71ff7cd7777a723556882a94", func := "rewind/rewindlaw02.TokenGoes", spec := "tokenGoes", inPlace := ["internal/bytealg.IndexByteString"], unfollowed := true, recurses := true, named := ["rewind/token.words", "rewind/token.pairs"], apart := false, laid := [("rewind/token.words", laid_rewind_token_words), ("rewind/token.pairs", laid_rewind_token_pairs)] }
def TokenGoesSaid : Prop := tokenGoesRow.holds Tryd.pinned (OpenSpec.ofChange tokenGoesSpec)

/-- ITS FALSE NEIGHBOUR: 'it returns false'. Refute it at one input. -/
def tokenGoesWrong : ChangeSpec := { name := "tokenGoes", fn := fun _ => fun
  | [d1, d2] => { results := [.lit (.bool false)], args := [d1, d2] }
  | _ => none }
def TokenGoesWrongFalsely : Prop := tokenGoesRow.holds Tryd.pinned (OpenSpec.ofChange tokenGoesWrong)

/-- 'rewindlaw02.TokenNumbers': WHATEVER THE INPUT: true; the input reads as it did. -/
def tokenNumbersSpec : ChangeSpec := { name := "tokenNumbers", fn := fun _ => fun
  | [d] => { results := [.lit (.bool true)], args := [d] }
  | _ => none }
def tokenNumbersRow : OpenClaim := { program := "ytolbikmpdffccaadoor", sum := "7c8c0c6c29d7ceca95d58d5bc4364967e0b8148f71ff7cd7777a723556882a94", func := "rewind/rewindlaw02.TokenNumbers", spec := "tokenNumbers", inPlace := ["internal/bytealg.IndexByteString"], unfollowed := true, recurses := true, named := ["rewind/token.words", "rewind/token.pairs"], apart := false, laid := [("rewind/token.words", laid_rewind_token_words), ("rewind/token.pairs", laid_rewind_token_pairs)] }
def TokenNumbersSaid : Prop := tokenNumbersRow.holds Tryd.pinned (OpenSpec.ofChange tokenNumbersSpec)

/-- ITS FALSE NEIGHBOUR: 'it returns false'. Refute it at one input. -/
def tokenNumbersWrong : ChangeSpec := { name := "tokenNumbers", fn := fun _ => fun
  | [d] => { results := [.lit (.bool false)], args := [d] }
  | _ => none }
def TokenNumbersWrongFalsely : Prop := tokenNumbersRow.holds Tryd.pinned (OpenSpec.ofChange tokenNumbersWrong)

/-- 'rewindlaw02.TokenSpans': WHATEVER THE INPUT: true; the input reads as it did. -/
def tokenSpansSpec : ChangeSpec := { name := "tokenSpans", fn := fun _ => fun
  | [d] => { results := [.lit (.bool true)], args := [d] }
  | _ => none }
def tokenSpansRow : OpenClaim := { program := "ytolbikmpdffccaadoor", sum := "7c8c0c6c29d7ceca95d58d5bc4364967e0b8148f71ff7cd7777a723556882a94", func := "rewind/rewindlaw02.TokenSpans", spec := "tokenSpans", inPlace := ["internal/bytealg.IndexByteString"], unfollowed := true, recurses := true, named := ["rewind/token.words", "rewind/token.pairs"], apart := false, laid := [("rewind/token.words", laid_rewind_token_words), ("rewind/token.pairs", laid_rewind_token_pairs)] }
def TokenSpansSaid : Prop := tokenSpansRow.holds Tryd.pinned (OpenSpec.ofChange tokenSpansSpec)

/-- ITS FALSE NEIGHBOUR: 'it returns false'. Refute it at one input. -/
def tokenSpansWrong : ChangeSpec := { name := "tokenSpans", fn := fun _ => fun
  | [d] => { results := [.lit (.bool false)], args := [d] }
  | _ => none }
def TokenSpansWrongFalsely : Prop := tokenSpansRow.holds Tryd.pinned (OpenSpec.ofChange tokenSpansWrong)

/-- 'rewindlaw02.TokenJoins': WHATEVER THE INPUT: true; the input reads as it did. -/
def tokenJoinsSpec : ChangeSpec := { name := "tokenJoins", fn := fun _ => fun
  | [d1, d2] => { results := [.lit (.bool true)], args := [d1, d2] }
  | _ => none }
def tokenJoinsRow : OpenClaim := { program := "ytolbikmpdffccaadoor", sum := "7c8c0c6c29d7ceca95d58d5bc4364967e0b8148f71ff7cd7777a723556882a94", func := "rewind/rewindlaw02.TokenJoins", spec := "tokenJoins", inPlace := ["internal/bytealg.IndexByteString"], unfollowed := true, recurses := true, named := ["rewind/token.words", "rewind/token.pairs"], apart := false, laid := [("rewind/token.words", laid_rewind_token_words), ("rewind/token.pairs", laid_rewind_token_pairs)] }
def TokenJoinsSaid : Prop := tokenJoinsRow.holds Tryd.pinned (OpenSpec.ofChange tokenJoinsSpec)

/-- ITS FALSE NEIGHBOUR: 'it returns false'. Refute it at one input. -/
def tokenJoinsWrong : ChangeSpec := { name := "tokenJoins", fn := fun _ => fun
  | [d1, d2] => { results := [.lit (.bool false)], args := [d1, d2] }
  | _ => none }
def TokenJoinsWrongFalsely : Prop := tokenJoinsRow.holds Tryd.pinned (OpenSpec.ofChange tokenJoinsWrong)

/-- 'rewindlaw02.TokenWords': WHATEVER THE INPUT: true; the input reads as it did. -/
def tokenWordsSpec : ChangeSpec := { name := "tokenWords", fn := fun _ => fun
  | [d] => { results := [.lit (.bool true)], args := [d] }
  | _ => none }
def tokenWordsRow : OpenClaim := { program := "ytolbikmpdffccaadoor", sum := "7c8c0c6c29d7ceca95d58d5bc4364967e0b8148f71ff7cd7777a723556882a94", func := "rewind/rewindlaw02.TokenWords", spec := "tokenWords", inPlace := ["internal/bytealg.IndexByteString"], unfollowed := true, recurses := true, named := ["rewind/token.words", "rewind/token.pairs"], apart := false, laid := [("rewind/token.words", laid_rewind_token_words), ("rewind/token.pairs", laid_rewind_token_pairs)] }
def TokenWordsSaid : Prop := tokenWordsRow.holds Tryd.pinned (OpenSpec.ofChange tokenWordsSpec)

/-- ITS FALSE NEIGHBOUR: 'it returns false'. Refute it at one input. -/
def tokenWordsWrong : ChangeSpec := { name := "tokenWords", fn := fun _ => fun
  | [d] => { results := [.lit (.bool false)], args := [d] }
  | _ => none }
def TokenWordsWrongFalsely : Prop := tokenWordsRow.holds Tryd.pinned (OpenSpec.ofChange tokenWordsWrong)

/-- 'rewindlaw02.TokenNames': WHATEVER THE INPUT: true; the input reads as it did. -/
def tokenNamesSpec : ChangeSpec := { name := "tokenNames", fn := fun _ => fun
  | [d1, d2] => { results := [.lit (.bool true)], args := [d1, d2] }
  | _ => none }
def tokenNamesRow : OpenClaim := { program := "ytolbikmpdffccaadoor", sum := "7c8c0c6c29d7ceca95d58d5bc4364967e0b8148f71ff7cd7777a723556882a94", func := "rewind/rewindlaw02.TokenNames", spec := "tokenNames", inPlace := ["internal/bytealg.IndexByteString"], unfollowed := true, recurses := true, named := ["rewind/token.words", "rewind/token.pairs"], apart := false, laid := [("rewind/token.words", laid_rewind_token_words), ("rewind/token.pairs", laid_rewind_token_pairs)] }
def TokenNamesSaid : Prop := tokenNamesRow.holds Tryd.pinned (OpenSpec.ofChange tokenNamesSpec)

/-- ITS FALSE NEIGHBOUR: 'it returns false'. Refute it at one input. -/
def tokenNamesWrong : ChangeSpec := { name := "tokenNames", fn := fun _ => fun
  | [d1, d2] => { results := [.lit (.bool false)], args := [d1, d2] }
  | _ => none }
def TokenNamesWrongFalsely : Prop := tokenNamesRow.holds Tryd.pinned (OpenSpec.ofChange tokenNamesWrong)

/- THE SECOND FORM. 'bulk': how many values and letters a reading holds, each counted each time it is reached (what is shared counts as often as it is met; a slice's spare places count too). A statement '..UptoSaid' is the law's where the arguments, and the package variables that the reading takes, are together of bulk at most 1048576: NARROWER than '..Said'. Prove '..Said' where nothing that the law and all that it calls make is longer than what came in: it says more and counts as full. Else prove '..UptoSaid'. A law counts once. -/
mutual
def uptoBulk {H : Type} : DataW H → Nat
  | .lit (.string bytes) => bytes.length + 1
  | .lit _ => 1
  | .nil => 1
  | .ptr d => uptoBulk d + 1
  | .slice elems spare => uptoBulkAll elems + uptoBulkAll spare + 1
  | .agg parts => uptoBulkAll parts + 1
  | .iface _ d => uptoBulk d + 1
  | .map entries => uptoBulkEntries entries + 1
  | .held _ => 1
def uptoBulkAll {H : Type} : List (DataW H) → Nat
  | [] => 0
  | d :: r => uptoBulk d + uptoBulkAll r
def uptoBulkEntries {H : Type} : List (Lit × DataW H) → Nat
  | [] => 0
  | x :: r => uptoBulkEntry x + uptoBulkEntries r
def uptoBulkEntry {H : Type} : Lit × DataW H → Nat
  | (.string bytes, d) => bytes.length + uptoBulk d + 1
  | (_, d) => uptoBulk d + 1
 end
def uptoSmall : (H : Type) → List (DataW H) → Bool := fun _ ds => decide (uptoBulkAll ds ≤ 1048576)
def OpenSpec.upto (s : _root_.Go.ChangeSpec) : _root_.Go.OpenSpec := { _root_.Go.OpenSpec.ofChange s with cond := some uptoSmall }

/-- 'rewindlaw02.TokenAlls', WHERE WHAT IT READS IS OF BULK AT MOST 1048576: true; the input reads as it did. -/
def tokenAllsUptoRow : OpenClaim := { program := "ytolbikmpdffccaadoor", sum := "7c8c0c6c29d7ceca95d58d5bc4364967e0b8148f71ff7cd7777a723556882a94", func := "rewind/rewindlaw02.TokenAlls", spec := "tokenAlls", inPlace := ["internal/bytealg.IndexByteString"], unfollowed := true, recurses := true, named := ["rewind/token.words", "rewind/token.pairs"], apart := false, laid := [("rewind/token.words", laid_rewind_token_words), ("rewind/token.pairs", laid_rewind_token_pairs)], narrowed := true }
def TokenAllsUptoSaid : Prop := tokenAllsUptoRow.holds Tryd.pinned (OpenSpec.upto tokenAllsSpec)

/-- 'rewindlaw02.TokenNexts', WHERE WHAT IT READS IS OF BULK AT MOST 1048576: true; the input reads as it did. -/
def tokenNextsUptoRow : OpenClaim := { program := "ytolbikmpdffccaadoor", sum := "7c8c0c6c29d7ceca95d58d5bc4364967e0b8148f71ff7cd7777a723556882a94", func := "rewind/rewindlaw02.TokenNexts", spec := "tokenNexts", inPlace := ["internal/bytealg.IndexByteString"], unfollowed := true, recurses := true, named := ["rewind/token.words", "rewind/token.pairs"], apart := false, laid := [("rewind/token.words", laid_rewind_token_words), ("rewind/token.pairs", laid_rewind_token_pairs)], narrowed := true }
def TokenNextsUptoSaid : Prop := tokenNextsUptoRow.holds Tryd.pinned (OpenSpec.upto tokenNextsSpec)

/-- 'rewindlaw02.TokenLongs', WHERE WHAT IT READS IS OF BULK AT MOST 1048576: true; the input reads as it did. -/
def tokenLongsUptoRow : OpenClaim := { program := "ytolbikmpdffccaadoor", sum := "7c8c0c6c29d7ceca95d58d5bc4364967e0b8148f71ff7cd7777a723556882a94", func := "rewind/rewindlaw02.TokenLongs", spec := "tokenLongs", inPlace := ["internal/bytealg.IndexByteString"], unfollowed := true, recurses := true, named := ["rewind/token.words", "rewind/token.pairs"], apart := false, laid := [("rewind/token.words", laid_rewind_token_words), ("rewind/token.pairs", laid_rewind_token_pairs)], narrowed := true }
def TokenLongsUptoSaid : Prop := tokenLongsUptoRow.holds Tryd.pinned (OpenSpec.upto tokenLongsSpec)

/-- 'rewindlaw02.TokenGoes', WHERE WHAT IT READS IS OF BULK AT MOST 1048576: true; the input reads as it did. -/
def tokenGoesUptoRow : OpenClaim := { program := "ytolbikmpdffccaadoor", sum := "7c8c0c6c29d7ceca95d58d5bc4364967e0b8148f71ff7cd7777a723556882a94", func := "rewind/rewindlaw02.TokenGoes", spec := "tokenGoes", inPlace := ["internal/bytealg.IndexByteString"], unfollowed := true, recurses := true, named := ["rewind/token.words", "rewind/token.pairs"], apart := false, laid := [("rewind/token.words", laid_rewind_token_words), ("rewind/token.pairs", laid_rewind_token_pairs)], narrowed := true }
def TokenGoesUptoSaid : Prop := tokenGoesUptoRow.holds Tryd.pinned (OpenSpec.upto tokenGoesSpec)

/-- 'rewindlaw02.TokenNumbers', WHERE WHAT IT READS IS OF BULK AT MOST 1048576: true; the input reads as it did. -/
def tokenNumbersUptoRow : OpenClaim := { program := "ytolbikmpdffccaadoor", sum := "7c8c0c6c29d7ceca95d58d5bc4364967e0b8148f71ff7cd7777a723556882a94", func := "rewind/rewindlaw02.TokenNumbers", spec := "tokenNumbers", inPlace := ["internal/bytealg.IndexByteString"], unfollowed := true, recurses := true, named := ["rewind/token.words", "rewind/token.pairs"], apart := false, laid := [("rewind/token.words", laid_rewind_token_words), ("rewind/token.pairs", laid_rewind_token_pairs)], narrowed := true }
def TokenNumbersUptoSaid : Prop := tokenNumbersUptoRow.holds Tryd.pinned (OpenSpec.upto tokenNumbersSpec)

/-- 'rewindlaw02.TokenSpans', WHERE WHAT IT READS IS OF BULK AT MOST 1048576: true; the input reads as it did. -/
def tokenSpansUptoRow : OpenClaim := { program := "ytolbikmpdffccaadoor", sum := "7c8c0c6c29d7ceca95d58d5bc4364967e0b8148f71ff7cd7777a723556882a94", func := "rewind/rewindlaw02.TokenSpans", spec := "tokenSpans", inPlace := ["internal/bytealg.IndexByteString"], unfollowed := true, recurses := true, named := ["rewind/token.words", "rewind/token.pairs"], apart := false, laid := [("rewind/token.words", laid_rewind_token_words), ("rewind/token.pairs", laid_rewind_token_pairs)], narrowed := true }
def TokenSpansUptoSaid : Prop := tokenSpansUptoRow.holds Tryd.pinned (OpenSpec.upto tokenSpansSpec)

/-- 'rewindlaw02.TokenJoins', WHERE WHAT IT READS IS OF BULK AT MOST 1048576: true; the input reads as it did. -/
def tokenJoinsUptoRow : OpenClaim := { program := "ytolbikmpdffccaadoor", sum := "7c8c0c6c29d7ceca95d58d5bc4364967e0b8148f71ff7cd7777a723556882a94", func := "rewind/rewindlaw02.TokenJoins", spec := "tokenJoins", inPlace := ["internal/bytealg.IndexByteString"], unfollowed := true, recurses := true, named := ["rewind/token.words", "rewind/token.pairs"], apart := false, laid := [("rewind/token.words", laid_rewind_token_words), ("rewind/token.pairs", laid_rewind_token_pairs)], narrowed := true }
def TokenJoinsUptoSaid : Prop := tokenJoinsUptoRow.holds Tryd.pinned (OpenSpec.upto tokenJoinsSpec)

/-- 'rewindlaw02.TokenWords', WHERE WHAT IT READS IS OF BULK AT MOST 1048576: true; the input reads as it did. -/
def tokenWordsUptoRow : OpenClaim := { program := "ytolbikmpdffccaadoor", sum := "7c8c0c6c29d7ceca95d58d5bc4364967e0b8148f71ff7cd7777a723556882a94", func := "rewind/rewindlaw02.TokenWords", spec := "tokenWords", inPlace := ["internal/bytealg.IndexByteString"], unfollowed := true, recurses := true, named := ["rewind/token.words", "rewind/token.pairs"], apart := false, laid := [("rewind/token.words", laid_rewind_token_words), ("rewind/token.pairs", laid_rewind_token_pairs)], narrowed := true }
def TokenWordsUptoSaid : Prop := tokenWordsUptoRow.holds Tryd.pinned (OpenSpec.upto tokenWordsSpec)

/-- 'rewindlaw02.TokenNames', WHERE WHAT IT READS IS OF BULK AT MOST 1048576: true; the input reads as it did. -/
def tokenNamesUptoRow : OpenClaim := { program := "ytolbikmpdffccaadoor", sum := "7c8c0c6c29d7ceca95d58d5bc4364967e0b8148f71ff7cd7777a723556882a94", func := "rewind/rewindlaw02.TokenNames", spec := "tokenNames", inPlace := ["internal/bytealg.IndexByteString"], unfollowed := true, recurses := true, named := ["rewind/token.words", "rewind/token.pairs"], apart := false, laid := [("rewind/token.words", laid_rewind_token_words), ("rewind/token.pairs", laid_rewind_token_pairs)], narrowed := true }
def TokenNamesUptoSaid : Prop := tokenNamesUptoRow.holds Tryd.pinned (OpenSpec.upto tokenNamesSpec)

end Rows
end Go.Proofs.YtolbikmpdffccaaDoor
