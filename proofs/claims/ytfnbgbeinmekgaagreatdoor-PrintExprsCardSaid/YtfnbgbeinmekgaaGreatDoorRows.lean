/-
  NARROWER THAN 'FOR EVERY INPUT', by the rows' own cells (each row's printed sentence says how): PrintBack: laid · PrintTabs: laid · PrintPrints: laid · PrintExprs: laid.
  DERIVED. THE GIVEN ROWS OF THIS SEAT. 4 by the template 'for every input the law returns true; each argument reads behind the call as it read before'; 0 by the template 'total and deterministic' (their statements: YtfnbgbeinmekgaaGreatDoorTotals.lean).
  GIVEN WITH THE SEED: the statements are not yours to turn. If you find one false, say at which input.
  Laid BY PROGRAM, IN A SANDBOX (cutbox-rows.mjs): the forced cells as the released guide's own fill.sh prints them over the translation 29d4c8ec5b4c3622… (all of the seat's roots in one cut). By AI agents, Wed Nov 11 2026. No macro, syntax, notation, axiom, sorry.
-/
import Derived.Test.YtfnbgbeinmekgaaGreatDoorChecked
import GoSem.Claim
import GoSem.ClaimJoined
import GoSem.ClaimMapViews
import Derived.JoinedTies
import Derived.KernelRfl
namespace Go.Proofs.YtfnbgbeinmekgaaGreatDoor
/- THE CELL 'sum', in the pinned program and in every row, IS THE sha256 OF THE DUMP (.gsa) THAT YtfnbgbeinmekgaaGreatDoorProg.lean LOADS. Nothing in Lean hashes anything: it is a label: what it is worth is what the hold of that sum in a sandbox is worth. -/
noncomputable def Tryz.pinned : Pinned := { name := "ytfnbgbeinmekgaagreatdoor", sum := "29d4c8ec5b4c3622f0e72eb4df64ae779927a15a3fbfd9ef7f01d737f44a9c82", checked := Tryz.checked }
namespace Rows
def none {H : Type} : Left H := { results := [], args := [] }

/- WHAT THE LISTED PACKAGE-LEVEL VARIABLES READ AS WHEN THE CALL BEGINS. Each datum BY PROGRAM (the guide's laid-datum.mjs) off the statement by which the dump's own 'gosem.cut.vars' lays the variable. In a bare row this is a premise. The card (YtfnbgbeinmekgaaGreatDoorCards.lean) ties it to the program's text. -/
def laid_math_bits_deBruijn32tab {H : Type} : DataW H := .agg [.lit (.int .u8 0), .lit (.int .u8 1), .lit (.int .u8 28), .lit (.int .u8 2), .lit (.int .u8 29), .lit (.int .u8 14), .lit (.int .u8 24), .lit (.int .u8 3), .lit (.int .u8 30), .lit (.int .u8 22), .lit (.int .u8 20), .lit (.int .u8 15), .lit (.int .u8 25), .lit (.int .u8 17), .lit (.int .u8 4), .lit (.int .u8 8), .lit (.int .u8 31), .lit (.int .u8 27), .lit (.int .u8 13), .lit (.int .u8 23), .lit (.int .u8 21), .lit (.int .u8 19), .lit (.int .u8 16), .lit (.int .u8 7), .lit (.int .u8 26), .lit (.int .u8 12), .lit (.int .u8 18), .lit (.int .u8 6), .lit (.int .u8 11), .lit (.int .u8 5), .lit (.int .u8 10), .lit (.int .u8 9)]
def laid_math_bits_deBruijn64tab {H : Type} : DataW H := .agg [.lit (.int .u8 0), .lit (.int .u8 1), .lit (.int .u8 56), .lit (.int .u8 2), .lit (.int .u8 57), .lit (.int .u8 49), .lit (.int .u8 28), .lit (.int .u8 3), .lit (.int .u8 61), .lit (.int .u8 58), .lit (.int .u8 42), .lit (.int .u8 50), .lit (.int .u8 38), .lit (.int .u8 29), .lit (.int .u8 17), .lit (.int .u8 4), .lit (.int .u8 62), .lit (.int .u8 47), .lit (.int .u8 59), .lit (.int .u8 36), .lit (.int .u8 45), .lit (.int .u8 43), .lit (.int .u8 51), .lit (.int .u8 22), .lit (.int .u8 53), .lit (.int .u8 39), .lit (.int .u8 33), .lit (.int .u8 30), .lit (.int .u8 24), .lit (.int .u8 18), .lit (.int .u8 12), .lit (.int .u8 5), .lit (.int .u8 63), .lit (.int .u8 55), .lit (.int .u8 48), .lit (.int .u8 27), .lit (.int .u8 60), .lit (.int .u8 41), .lit (.int .u8 37), .lit (.int .u8 16), .lit (.int .u8 46), .lit (.int .u8 35), .lit (.int .u8 44), .lit (.int .u8 21), .lit (.int .u8 52), .lit (.int .u8 32), .lit (.int .u8 23), .lit (.int .u8 11), .lit (.int .u8 54), .lit (.int .u8 26), .lit (.int .u8 40), .lit (.int .u8 15), .lit (.int .u8 34), .lit (.int .u8 20), .lit (.int .u8 31), .lit (.int .u8 10), .lit (.int .u8 25), .lit (.int .u8 14), .lit (.int .u8 19), .lit (.int .u8 9), .lit (.int .u8 13), .lit (.int .u8 8), .lit (.int .u8 7), .lit (.int .u8 6)]
def laid_internal_strconv_uint64pow10 {H : Type} : DataW H := .agg [.lit (.int .u64 1), .lit (.int .u64 10), .lit (.int .u64 100), .lit (.int .u64 1000), .lit (.int .u64 10000), .lit (.int .u64 100000), .lit (.int .u64 1000000), .lit (.int .u64 10000000), .lit (.int .u64 100000000), .lit (.int .u64 1000000000), .lit (.int .u64 10000000000), .lit (.int .u64 100000000000), .lit (.int .u64 1000000000000), .lit (.int .u64 10000000000000), .lit (.int .u64 100000000000000), .lit (.int .u64 1000000000000000), .lit (.int .u64 10000000000000000), .lit (.int .u64 100000000000000000), .lit (.int .u64 1000000000000000000), .lit (.int .u64 10000000000000000000)]
def laid_rewind_print_levels {H : Type} : DataW H := .agg [.lit (.string [32, 124, 124, 32]), .lit (.string [32, 38, 38, 32]), .lit (.string [32, 61, 61, 32, 33, 61, 32, 60, 32, 60, 61, 32, 62, 32, 62, 61, 32]), .lit (.string [32, 43, 32, 45, 32]), .lit (.string [32, 42, 32, 47, 32, 37, 32])]
def laid_rewind_token_words {H : Type} : DataW H := .agg [.lit (.string [98, 114, 101, 97, 107]), .lit (.string [99, 111, 110, 116, 105, 110, 117, 101]), .lit (.string [101, 108, 115, 101]), .lit (.string [102, 97, 108, 115, 101]), .lit (.string [102, 117, 110, 99]), .lit (.string [105, 102]), .lit (.string [105, 110, 116]), .lit (.string [112, 114, 105, 110, 116]), .lit (.string [114, 101, 97, 100]), .lit (.string [114, 101, 116, 117, 114, 110]), .lit (.string [116, 114, 117, 101]), .lit (.string [118, 97, 114]), .lit (.string [119, 104, 105, 108, 101])]
def laid_rewind_token_pairs {H : Type} : DataW H := .agg [.lit (.string [61, 61]), .lit (.string [33, 61]), .lit (.string [60, 61]), .lit (.string [62, 61]), .lit (.string [38, 38]), .lit (.string [124, 124])]

/-- 'rewindlaw05.PrintBack': WHATEVER THE INPUT: true; the input reads as it did. -/
def printBackSpec : ChangeSpec := { name := "printBack", fn := fun _ => fun
  | [d] => { results := [.lit (.bool true)], args := [d] }
  | _ => none }
def printBackRow : OpenClaim := { program := "ytfnbgbeinmekgaagreatdoor", sum := "29d4c8ec5b4c3622f0e72eb4df64ae779927a15a3fbfd9ef7f01d737f44a9c82", func := "rewind/rewindlaw05.PrintBack", spec := "printBack", inPlace := ["internal/bytealg.IndexByteString", "internal/abi.NoEscape", "internal/bytealg.MakeNoZero", "internal/bytealg.IndexString"], unfollowed := true, recurses := true, named := ["rewind/token.words", "rewind/token.pairs", "internal/strconv.uint64pow10", "math/bits.deBruijn32tab", "math/bits.deBruijn64tab", "rewind/print.levels", "internal/bytealg.MaxLen"], apart := false, laid := [("math/bits.deBruijn32tab", laid_math_bits_deBruijn32tab), ("math/bits.deBruijn64tab", laid_math_bits_deBruijn64tab), ("internal/strconv.uint64pow10", laid_internal_strconv_uint64pow10), ("rewind/print.levels", laid_rewind_print_levels), ("rewind/token.words", laid_rewind_token_words), ("rewind/token.pairs", laid_rewind_token_pairs)] }
def PrintBackSaid : Prop := printBackRow.holds Tryz.pinned (OpenSpec.ofChange printBackSpec)

/-- ITS FALSE NEIGHBOUR: 'it returns false'. Refute it at one input. -/
def printBackWrong : ChangeSpec := { name := "printBack", fn := fun _ => fun
  | [d] => { results := [.lit (.bool false)], args := [d] }
  | _ => none }
def PrintBackWrongFalsely : Prop := printBackRow.holds Tryz.pinned (OpenSpec.ofChange printBackWrong)

/-- 'rewindlaw05.PrintTabs': WHATEVER THE INPUT: true; the input reads as it did. -/
def printTabsSpec : ChangeSpec := { name := "printTabs", fn := fun _ => fun
  | [d] => { results := [.lit (.bool true)], args := [d] }
  | _ => none }
def printTabsRow : OpenClaim := { program := "ytfnbgbeinmekgaagreatdoor", sum := "29d4c8ec5b4c3622f0e72eb4df64ae779927a15a3fbfd9ef7f01d737f44a9c82", func := "rewind/rewindlaw05.PrintTabs", spec := "printTabs", inPlace := ["internal/bytealg.IndexByteString", "internal/abi.NoEscape", "internal/bytealg.MakeNoZero", "internal/bytealg.IndexString"], unfollowed := true, recurses := true, named := ["rewind/token.words", "rewind/token.pairs", "internal/strconv.uint64pow10", "math/bits.deBruijn32tab", "math/bits.deBruijn64tab", "rewind/print.levels", "internal/bytealg.MaxLen"], apart := false, laid := [("math/bits.deBruijn32tab", laid_math_bits_deBruijn32tab), ("math/bits.deBruijn64tab", laid_math_bits_deBruijn64tab), ("internal/strconv.uint64pow10", laid_internal_strconv_uint64pow10), ("rewind/print.levels", laid_rewind_print_levels), ("rewind/token.words", laid_rewind_token_words), ("rewind/token.pairs", laid_rewind_token_pairs)] }
def PrintTabsSaid : Prop := printTabsRow.holds Tryz.pinned (OpenSpec.ofChange printTabsSpec)

/-- ITS FALSE NEIGHBOUR: 'it returns false'. Refute it at one input. -/
def printTabsWrong : ChangeSpec := { name := "printTabs", fn := fun _ => fun
  | [d] => { results := [.lit (.bool false)], args := [d] }
  | _ => none }
def PrintTabsWrongFalsely : Prop := printTabsRow.holds Tryz.pinned (OpenSpec.ofChange printTabsWrong)

/-- 'rewindlaw05.PrintPrints': WHATEVER THE INPUT: true; the input reads as it did. -/
def printPrintsSpec : ChangeSpec := { name := "printPrints", fn := fun _ => fun
  | [d] => { results := [.lit (.bool true)], args := [d] }
  | _ => none }
def printPrintsRow : OpenClaim := { program := "ytfnbgbeinmekgaagreatdoor", sum := "29d4c8ec5b4c3622f0e72eb4df64ae779927a15a3fbfd9ef7f01d737f44a9c82", func := "rewind/rewindlaw05.PrintPrints", spec := "printPrints", inPlace := ["internal/bytealg.IndexByteString", "internal/abi.NoEscape", "internal/bytealg.MakeNoZero", "internal/bytealg.IndexString"], unfollowed := true, recurses := true, named := ["rewind/token.words", "rewind/token.pairs", "internal/strconv.uint64pow10", "math/bits.deBruijn32tab", "math/bits.deBruijn64tab", "rewind/print.levels", "internal/bytealg.MaxLen"], apart := false, laid := [("math/bits.deBruijn32tab", laid_math_bits_deBruijn32tab), ("math/bits.deBruijn64tab", laid_math_bits_deBruijn64tab), ("internal/strconv.uint64pow10", laid_internal_strconv_uint64pow10), ("rewind/print.levels", laid_rewind_print_levels), ("rewind/token.words", laid_rewind_token_words), ("rewind/token.pairs", laid_rewind_token_pairs)] }
def PrintPrintsSaid : Prop := printPrintsRow.holds Tryz.pinned (OpenSpec.ofChange printPrintsSpec)

/-- ITS FALSE NEIGHBOUR: 'it returns false'. Refute it at one input. -/
def printPrintsWrong : ChangeSpec := { name := "printPrints", fn := fun _ => fun
  | [d] => { results := [.lit (.bool false)], args := [d] }
  | _ => none }
def PrintPrintsWrongFalsely : Prop := printPrintsRow.holds Tryz.pinned (OpenSpec.ofChange printPrintsWrong)

/-- 'rewindlaw05.PrintExprs': WHATEVER THE INPUT: true; the input reads as it did. -/
def printExprsSpec : ChangeSpec := { name := "printExprs", fn := fun _ => fun
  | [d] => { results := [.lit (.bool true)], args := [d] }
  | _ => none }
def printExprsRow : OpenClaim := { program := "ytfnbgbeinmekgaagreatdoor", sum := "29d4c8ec5b4c3622f0e72eb4df64ae779927a15a3fbfd9ef7f01d737f44a9c82", func := "rewind/rewindlaw05.PrintExprs", spec := "printExprs", inPlace := ["internal/bytealg.IndexByteString", "internal/abi.NoEscape", "internal/bytealg.MakeNoZero", "internal/bytealg.IndexString"], unfollowed := true, recurses := true, named := ["rewind/token.words", "rewind/token.pairs", "internal/strconv.uint64pow10", "math/bits.deBruijn32tab", "math/bits.deBruijn64tab", "rewind/print.levels", "internal/bytealg.MaxLen"], apart := false, laid := [("math/bits.deBruijn32tab", laid_math_bits_deBruijn32tab), ("math/bits.deBruijn64tab", laid_math_bits_deBruijn64tab), ("internal/strconv.uint64pow10", laid_internal_strconv_uint64pow10), ("rewind/print.levels", laid_rewind_print_levels), ("rewind/token.words", laid_rewind_token_words), ("rewind/token.pairs", laid_rewind_token_pairs)] }
def PrintExprsSaid : Prop := printExprsRow.holds Tryz.pinned (OpenSpec.ofChange printExprsSpec)

/-- ITS FALSE NEIGHBOUR: 'it returns false'. Refute it at one input. -/
def printExprsWrong : ChangeSpec := { name := "printExprs", fn := fun _ => fun
  | [d] => { results := [.lit (.bool false)], args := [d] }
  | _ => none }
def PrintExprsWrongFalsely : Prop := printExprsRow.holds Tryz.pinned (OpenSpec.ofChange printExprsWrong)

/- THE SECOND FORM. 'bulk': how many values and letters a reading holds, each counted each time it is reached (what is shared counts as often as it is met; a slice's spare places count too). A statement '..UptoSaid' is the law's where the arguments, and the package variables that the reading takes, are together of bulk at most 1048576: NARROWER than '..Said'. Prove '..Said' where nothing that the law and all that it calls make is longer than what came in: it says more and counts as full. Else prove '..UptoSaid'. A law counts once. -/
mutual
def uptoBulk {H : Type} : DataW H → Nat
  | .lit (.string bytes) => bytes.length + 1
  | .lit _ => 1
  | .nil => 1
  | .ptr d => uptoBulk d + 1
  | .slice elems spare => uptoBulkAll elems + uptoBulkAll spare + 1
  | .agg parts => uptoBulkAll parts + 1
  | .iface _ d => uptoBulk d + 1
  | .map entries => uptoBulkEntries entries + 1
  | .held _ => 1
def uptoBulkAll {H : Type} : List (DataW H) → Nat
  | [] => 0
  | d :: r => uptoBulk d + uptoBulkAll r
def uptoBulkEntries {H : Type} : List (Lit × DataW H) → Nat
  | [] => 0
  | x :: r => uptoBulkEntry x + uptoBulkEntries r
def uptoBulkEntry {H : Type} : Lit × DataW H → Nat
  | (.string bytes, d) => bytes.length + uptoBulk d + 1
  | (_, d) => uptoBulk d + 1
 end
def uptoSmall : (H : Type) → List (DataW H) → Bool := fun _ ds => decide (uptoBulkAll ds ≤ 1048576)
def OpenSpec.upto (s : _root_.Go.ChangeSpec) : _root_.Go.OpenSpec := { _root_.Go.OpenSpec.ofChange s with cond := some uptoSmall }

/-- 'rewindlaw05.PrintBack', WHERE WHAT IT READS IS OF BULK AT MOST 1048576: true; the input reads as it did. -/
def printBackUptoRow : OpenClaim := { program := "ytfnbgbeinmekgaagreatdoor", sum := "29d4c8ec5b4c3622f0e72eb4df64ae779927a15a3fbfd9ef7f01d737f44a9c82", func := "rewind/rewindlaw05.PrintBack", spec := "printBack", inPlace := ["internal/bytealg.IndexByteString", "internal/abi.NoEscape", "internal/bytealg.MakeNoZero", "internal/bytealg.IndexString"], unfollowed := true, recurses := true, named := ["rewind/token.words", "rewind/token.pairs", "internal/strconv.uint64pow10", "math/bits.deBruijn32tab", "math/bits.deBruijn64tab", "rewind/print.levels", "internal/bytealg.MaxLen"], apart := false, laid := [("math/bits.deBruijn32tab", laid_math_bits_deBruijn32tab), ("math/bits.deBruijn64tab", laid_math_bits_deBruijn64tab), ("internal/strconv.uint64pow10", laid_internal_strconv_uint64pow10), ("rewind/print.levels", laid_rewind_print_levels), ("rewind/token.words", laid_rewind_token_words), ("rewind/token.pairs", laid_rewind_token_pairs)], narrowed := true }
def PrintBackUptoSaid : Prop := printBackUptoRow.holds Tryz.pinned (OpenSpec.upto printBackSpec)

/-- 'rewindlaw05.PrintTabs', WHERE WHAT IT READS IS OF BULK AT MOST 1048576: true; the input reads as it did. -/
def printTabsUptoRow : OpenClaim := { program := "ytfnbgbeinmekgaagreatdoor", sum := "29d4c8ec5b4c3622f0e72eb4df64ae779927a15a3fbfd9ef7f01d737f44a9c82", func := "rewind/rewindlaw05.PrintTabs", spec := "printTabs", inPlace := ["internal/bytealg.IndexByteString", "internal/abi.NoEscape", "internal/bytealg.MakeNoZero", "internal/bytealg.IndexString"], unfollowed := true, recurses := true, named := ["rewind/token.words", "rewind/token.pairs", "internal/strconv.uint64pow10", "math/bits.deBruijn32tab", "math/bits.deBruijn64tab", "rewind/print.levels", "internal/bytealg.MaxLen"], apart := false, laid := [("math/bits.deBruijn32tab", laid_math_bits_deBruijn32tab), ("math/bits.deBruijn64tab", laid_math_bits_deBruijn64tab), ("internal/strconv.uint64pow10", laid_internal_strconv_uint64pow10), ("rewind/print.levels", laid_rewind_print_levels), ("rewind/token.words", laid_rewind_token_words), ("rewind/token.pairs", laid_rewind_token_pairs)], narrowed := true }
def PrintTabsUptoSaid : Prop := printTabsUptoRow.holds Tryz.pinned (OpenSpec.upto printTabsSpec)

/-- 'rewindlaw05.PrintPrints', WHERE WHAT IT READS IS OF BULK AT MOST 1048576: true; the input reads as it did. -/
def printPrintsUptoRow : OpenClaim := { program := "ytfnbgbeinmekgaagreatdoor", sum := "29d4c8ec5b4c3622f0e72eb4df64ae779927a15a3fbfd9ef7f01d737f44a9c82", func := "rewind/rewindlaw05.PrintPrints", spec := "printPrints", inPlace := ["internal/bytealg.IndexByteString", "internal/abi.NoEscape", "internal/bytealg.MakeNoZero", "internal/bytealg.IndexString"], unfollowed := true, recurses := true, named := ["rewind/token.words", "rewind/token.pairs", "internal/strconv.uint64pow10", "math/bits.deBruijn32tab", "math/bits.deBruijn64tab", "rewind/print.levels", "internal/bytealg.MaxLen"], apart := false, laid := [("math/bits.deBruijn32tab", laid_math_bits_deBruijn32tab), ("math/bits.deBruijn64tab", laid_math_bits_deBruijn64tab), ("internal/strconv.uint64pow10", laid_internal_strconv_uint64pow10), ("rewind/print.levels", laid_rewind_print_levels), ("rewind/token.words", laid_rewind_token_words), ("rewind/token.pairs", laid_rewind_token_pairs)], narrowed := true }
def PrintPrintsUptoSaid : Prop := printPrintsUptoRow.holds Tryz.pinned (OpenSpec.upto printPrintsSpec)

/-- 'rewindlaw05.PrintExprs', WHERE WHAT IT READS IS OF BULK AT MOST 1048576: true; the input reads as it did. -/
def printExprsUptoRow : OpenClaim := { program := "ytfnbgbeinmekgaagreatdoor", sum := "29d4c8ec5b4c3622f0e72eb4df64ae779927a15a3fbfd9ef7f01d737f44a9c82", func := "rewind/rewindlaw05.PrintExprs", spec := "printExprs", inPlace := ["internal/bytealg.IndexByteString", "internal/abi.NoEscape", "internal/bytealg.MakeNoZero", "internal/bytealg.IndexString"], unfollowed := true, recurses := true, named := ["rewind/token.words", "rewind/token.pairs", "internal/strconv.uint64pow10", "math/bits.deBruijn32tab", "math/bits.deBruijn64tab", "rewind/print.levels", "internal/bytealg.MaxLen"], apart := false, laid := [("math/bits.deBruijn32tab", laid_math_bits_deBruijn32tab), ("math/bits.deBruijn64tab", laid_math_bits_deBruijn64tab), ("internal/strconv.uint64pow10", laid_internal_strconv_uint64pow10), ("rewind/print.levels", laid_rewind_print_levels), ("rewind/token.words", laid_rewind_token_words), ("rewind/token.pairs", laid_rewind_token_pairs)], narrowed := true }
def PrintExprsUptoSaid : Prop := printExprsUptoRow.holds Tryz.pinned (OpenSpec.upto printExprsSpec)

end Rows
end Go.Proofs.YtfnbgbeinmekgaaGreatDoor
