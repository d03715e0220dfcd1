/-
  No cell of these rows narrows 'for every input' (looked for: loops, veiled, ifaces, maps, wideKeys, modest, calm, conditions, laid).
  DERIVED. THE GIVEN ROWS OF THIS SEAT. 4 by the template 'for every input the law returns true; each argument reads behind the call as it read before'; 0 by the template 'total and deterministic' (their statements: YtimgapkngjkagaaTotals.lean).
  GIVEN WITH THE SEED: the statements are not yours to turn. If you find one false, say at which input.
  Laid BY PROGRAM, IN A SANDBOX (cutbox-rows.mjs): the forced cells as the released guide's own fill.sh prints them over the translation 0ed1f3a68ee39393… (all of the seat's roots in one cut). By AI agents, Wed Nov 11 2026. No macro, syntax, notation, axiom, sorry.
-/
import Derived.Test.YtimgapkngjkagaaChecked
import GoSem.Claim
import GoSem.ClaimJoined
import GoSem.ClaimMapViews
import Derived.JoinedTies
import Derived.KernelRfl
namespace Go.Proofs.Ytimgapkngjkagaa
/- THE CELL 'sum', in the pinned program and in every row, IS THE sha256 OF THE DUMP (.gsa) THAT YtimgapkngjkagaaProg.lean LOADS. Nothing in Lean hashes anything: it is a label: what it is worth is what the hold of that sum in a sandbox is worth. -/
noncomputable def Try.pinned : Pinned := { name := "ytimgapkngjkagaa", sum := "0ed1f3a68ee393932468592cc13b3522896715507efc70f2c262693bef3b4f30", checked := Try.checked }
namespace Rows
def none {H : Type} : Left H := { results := [], args := [] }

/-- 'rewindlaw01.PageJoins': WHATEVER THE INPUT: true; the input reads as it did. -/
def pageJoinsSpec : ChangeSpec := { name := "pageJoins", fn := fun _ => fun
  | [d1, d2] => { results := [.lit (.bool true)], args := [d1, d2] }
  | _ => none }
def pageJoinsRow : OpenClaim := { program := "ytimgapkngjkagaa", sum := "0ed1f3a68ee393932468592cc13b3522896715507efc70f2c262693bef3b4f30", func := "rewind/rewindlaw01.PageJoins", spec := "pageJoins", inPlace := ["internal/bytealg.CountString", "internal/bytealg.IndexByteString", "internal/bytealg.IndexString"], unfollowed := true, recurses := true, named := ["internal/bytealg.MaxLen"], apart := false }
def PageJoinsSaid : Prop := pageJoinsRow.holds Try.pinned (OpenSpec.ofChange pageJoinsSpec)

/-- ITS FALSE NEIGHBOUR: 'it returns false'. Refute it at one input. -/
def pageJoinsWrong : ChangeSpec := { name := "pageJoins", fn := fun _ => fun
  | [d1, d2] => { results := [.lit (.bool false)], args := [d1, d2] }
  | _ => none }
def PageJoinsWrongFalsely : Prop := pageJoinsRow.holds Try.pinned (OpenSpec.ofChange pageJoinsWrong)

/-- 'rewindlaw01.PageBlanks': WHATEVER THE INPUT: true; the input reads as it did. -/
def pageBlanksSpec : ChangeSpec := { name := "pageBlanks", fn := fun _ => fun
  | [d1, d2] => { results := [.lit (.bool true)], args := [d1, d2] }
  | _ => none }
def pageBlanksRow : OpenClaim := { program := "ytimgapkngjkagaa", sum := "0ed1f3a68ee393932468592cc13b3522896715507efc70f2c262693bef3b4f30", func := "rewind/rewindlaw01.PageBlanks", spec := "pageBlanks", inPlace := ["internal/bytealg.CountString", "internal/bytealg.IndexByteString", "internal/bytealg.IndexString", "internal/abi.NoEscape"], unfollowed := true, recurses := true, named := ["internal/bytealg.MaxLen"], apart := false }
def PageBlanksSaid : Prop := pageBlanksRow.holds Try.pinned (OpenSpec.ofChange pageBlanksSpec)

/-- ITS FALSE NEIGHBOUR: 'it returns false'. Refute it at one input. -/
def pageBlanksWrong : ChangeSpec := { name := "pageBlanks", fn := fun _ => fun
  | [d1, d2] => { results := [.lit (.bool false)], args := [d1, d2] }
  | _ => none }
def PageBlanksWrongFalsely : Prop := pageBlanksRow.holds Try.pinned (OpenSpec.ofChange pageBlanksWrong)

/-- 'rewindlaw01.PageCuts': WHATEVER THE INPUT: true; the input reads as it did. -/
def pageCutsSpec : ChangeSpec := { name := "pageCuts", fn := fun _ => fun
  | [d1, d2] => { results := [.lit (.bool true)], args := [d1, d2] }
  | _ => none }
def pageCutsRow : OpenClaim := { program := "ytimgapkngjkagaa", sum := "0ed1f3a68ee393932468592cc13b3522896715507efc70f2c262693bef3b4f30", func := "rewind/rewindlaw01.PageCuts", spec := "pageCuts", inPlace := ["internal/bytealg.CountString", "internal/bytealg.IndexByteString", "internal/bytealg.IndexString", "internal/abi.NoEscape"], unfollowed := true, recurses := true, named := ["internal/bytealg.MaxLen"], apart := false }
def PageCutsSaid : Prop := pageCutsRow.holds Try.pinned (OpenSpec.ofChange pageCutsSpec)

/-- ITS FALSE NEIGHBOUR: 'it returns false'. Refute it at one input. -/
def pageCutsWrong : ChangeSpec := { name := "pageCuts", fn := fun _ => fun
  | [d1, d2] => { results := [.lit (.bool false)], args := [d1, d2] }
  | _ => none }
def PageCutsWrongFalsely : Prop := pageCutsRow.holds Try.pinned (OpenSpec.ofChange pageCutsWrong)

/-- 'rewindlaw01.PageGoods': WHATEVER THE INPUT: true; the input reads as it did. -/
def pageGoodsSpec : ChangeSpec := { name := "pageGoods", fn := fun _ => fun
  | [d1, d2] => { results := [.lit (.bool true)], args := [d1, d2] }
  | _ => none }
def pageGoodsRow : OpenClaim := { program := "ytimgapkngjkagaa", sum := "0ed1f3a68ee393932468592cc13b3522896715507efc70f2c262693bef3b4f30", func := "rewind/rewindlaw01.PageGoods", spec := "pageGoods", inPlace := ["internal/bytealg.CountString", "internal/bytealg.IndexByteString", "internal/bytealg.IndexString", "internal/abi.NoEscape"], unfollowed := true, recurses := true, named := ["internal/bytealg.MaxLen"], apart := false }
def PageGoodsSaid : Prop := pageGoodsRow.holds Try.pinned (OpenSpec.ofChange pageGoodsSpec)

/-- ITS FALSE NEIGHBOUR: 'it returns false'. Refute it at one input. -/
def pageGoodsWrong : ChangeSpec := { name := "pageGoods", fn := fun _ => fun
  | [d1, d2] => { results := [.lit (.bool false)], args := [d1, d2] }
  | _ => none }
def PageGoodsWrongFalsely : Prop := pageGoodsRow.holds Try.pinned (OpenSpec.ofChange pageGoodsWrong)

/- THE SECOND FORM. 'bulk': how many values and letters a reading holds, each counted each time it is reached (what is shared counts as often as it is met; a slice's spare places count too). A statement '..UptoSaid' is the law's where the arguments, and the package variables that the reading takes, are together of bulk at most 1048576: NARROWER than '..Said'. Prove '..Said' where nothing that the law and all that it calls make is longer than what came in: it says more and counts as full. Else prove '..UptoSaid'. A law counts once. -/
mutual
def uptoBulk {H : Type} : DataW H → Nat
  | .lit (.string bytes) => bytes.length + 1
  | .lit _ => 1
  | .nil => 1
  | .ptr d => uptoBulk d + 1
  | .slice elems spare => uptoBulkAll elems + uptoBulkAll spare + 1
  | .agg parts => uptoBulkAll parts + 1
  | .iface _ d => uptoBulk d + 1
  | .map entries => uptoBulkEntries entries + 1
  | .held _ => 1
def uptoBulkAll {H : Type} : List (DataW H) → Nat
  | [] => 0
  | d :: r => uptoBulk d + uptoBulkAll r
def uptoBulkEntries {H : Type} : List (Lit × DataW H) → Nat
  | [] => 0
  | x :: r => uptoBulkEntry x + uptoBulkEntries r
def uptoBulkEntry {H : Type} : Lit × DataW H → Nat
  | (.string bytes, d) => bytes.length + uptoBulk d + 1
  | (_, d) => uptoBulk d + 1
 end
def uptoSmall : (H : Type) → List (DataW H) → Bool := fun _ ds => decide (uptoBulkAll ds ≤ 1048576)
def OpenSpec.upto (s : _root_.Go.ChangeSpec) : _root_.Go.OpenSpec := { _root_.Go.OpenSpec.ofChange s with cond := some uptoSmall }

/-- 'rewindlaw01.PageJoins', WHERE WHAT IT READS IS OF BULK AT MOST 1048576: true; the input reads as it did. -/
def pageJoinsUptoRow : OpenClaim := { program := "ytimgapkngjkagaa", sum := "0ed1f3a68ee393932468592cc13b3522896715507efc70f2c262693bef3b4f30", func := "rewind/rewindlaw01.PageJoins", spec := "pageJoins", inPlace := ["internal/bytealg.CountString", "internal/bytealg.IndexByteString", "internal/bytealg.IndexString"], unfollowed := true, recurses := true, named := ["internal/bytealg.MaxLen"], apart := false, narrowed := true }
def PageJoinsUptoSaid : Prop := pageJoinsUptoRow.holds Try.pinned (OpenSpec.upto pageJoinsSpec)

/-- 'rewindlaw01.PageBlanks', WHERE WHAT IT READS IS OF BULK AT MOST 1048576: true; the input reads as it did. -/
def pageBlanksUptoRow : OpenClaim := { program := "ytimgapkngjkagaa", sum := "0ed1f3a68ee393932468592cc13b3522896715507efc70f2c262693bef3b4f30", func := "rewind/rewindlaw01.PageBlanks", spec := "pageBlanks", inPlace := ["internal/bytealg.CountString", "internal/bytealg.IndexByteString", "internal/bytealg.IndexString", "internal/abi.NoEscape"], unfollowed := true, recurses := true, named := ["internal/bytealg.MaxLen"], apart := false, narrowed := true }
def PageBlanksUptoSaid : Prop := pageBlanksUptoRow.holds Try.pinned (OpenSpec.upto pageBlanksSpec)

/-- 'rewindlaw01.PageCuts', WHERE WHAT IT READS IS OF BULK AT MOST 1048576: true; the input reads as it did. -/
def pageCutsUptoRow : OpenClaim := { program := "ytimgapkngjkagaa", sum := "0ed1f3a68ee393932468592cc13b3522896715507efc70f2c262693bef3b4f30", func := "rewind/rewindlaw01.PageCuts", spec := "pageCuts", inPlace := ["internal/bytealg.CountString", "internal/bytealg.IndexByteString", "internal/bytealg.IndexString", "internal/abi.NoEscape"], unfollowed := true, recurses := true, named := ["internal/bytealg.MaxLen"], apart := false, narrowed := true }
def PageCutsUptoSaid : Prop := pageCutsUptoRow.holds Try.pinned (OpenSpec.upto pageCutsSpec)

/-- 'rewindlaw01.PageGoods', WHERE WHAT IT READS IS OF BULK AT MOST 1048576: true; the input reads as it did. -/
def pageGoodsUptoRow : OpenClaim := { program := "ytimgapkngjkagaa", sum := "0ed1f3a68ee393932468592cc13b3522896715507efc70f2c262693bef3b4f30", func := "rewind/rewindlaw01.PageGoods", spec := "pageGoods", inPlace := ["internal/bytealg.CountString", "internal/bytealg.IndexByteString", "internal/bytealg.IndexString", "internal/abi.NoEscape"], unfollowed := true, recurses := true, named := ["internal/bytealg.MaxLen"], apart := false, narrowed := true }
def PageGoodsUptoSaid : Prop := pageGoodsUptoRow.holds Try.pinned (OpenSpec.upto pageGoodsSpec)

end Rows
end Go.Proofs.Ytimgapkngjkagaa
