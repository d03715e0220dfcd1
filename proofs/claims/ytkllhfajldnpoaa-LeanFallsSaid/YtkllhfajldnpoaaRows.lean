/-
  No cell of these rows narrows 'for every input' (looked for: loops, veiled, ifaces, maps, wideKeys, modest, calm, conditions, laid).
  DERIVED. THE GIVEN ROWS OF THIS SEAT. 7 by the template 'for every input the law returns true; each argument reads behind the call as it read before'; 0 by the template 'total and deterministic' (their statements: YtkllhfajldnpoaaTotals.lean).
  GIVEN WITH THE SEED: the statements are not yours to turn. If you find one false, say at which input.
  Laid BY PROGRAM, IN A SANDBOX (cutbox-rows.mjs): the forced cells as the released guide's own fill.sh prints them over the translation 1bb5f11015ea4131… (all of the seat's roots in one cut). By AI agents, Wed Nov 11 2026. No macro, syntax, notation, axiom, sorry.
-/
import Derived.Test.YtkllhfajldnpoaaChecked
import GoSem.Claim
import GoSem.ClaimJoined
import GoSem.ClaimMapViews
import Derived.JoinedTies
import Derived.KernelRfl
namespace Go.Proofs.Ytkllhfajldnpoaa
/- THE CELL 'sum', in the pinned program and in every row, IS THE sha256 OF THE DUMP (.gsa) THAT YtkllhfajldnpoaaProg.lean LOADS. Nothing in Lean hashes anything: it is a label: what it is worth is what the hold of that sum in a sandbox is worth. -/
noncomputable def Try.pinned : Pinned := { name := "ytkllhfajldnpoaa", sum := "1bb5f11015ea41315d345607aec0186b49b063e36f08db93b9b6c4e9b12af682", checked := Try.checked }
namespace Rows
def none {H : Type} : Left H := { results := [], args := [] }

/-- 'rewindlaw08.FenceNexts': WHATEVER THE INPUT: true; the input reads as it did. -/
def fenceNextsSpec : ChangeSpec := { name := "fenceNexts", fn := fun _ => fun
  | [d] => { results := [.lit (.bool true)], args := [d] }
  | _ => none }
def fenceNextsRow : OpenClaim := { program := "ytkllhfajldnpoaa", sum := "1bb5f11015ea41315d345607aec0186b49b063e36f08db93b9b6c4e9b12af682", func := "rewind/rewindlaw08.FenceNexts", spec := "fenceNexts", unfollowed := true, recurses := true, apart := false }
def FenceNextsSaid : Prop := fenceNextsRow.holds Try.pinned (OpenSpec.ofChange fenceNextsSpec)

/-- ITS FALSE NEIGHBOUR: 'it returns false'. Refute it at one input. -/
def fenceNextsWrong : ChangeSpec := { name := "fenceNexts", fn := fun _ => fun
  | [d] => { results := [.lit (.bool false)], args := [d] }
  | _ => none }
def FenceNextsWrongFalsely : Prop := fenceNextsRow.holds Try.pinned (OpenSpec.ofChange fenceNextsWrong)

/-- 'rewindlaw08.FenceOnes': WHATEVER THE INPUT: true; the input reads as it did. -/
def fenceOnesSpec : ChangeSpec := { name := "fenceOnes", fn := fun _ => fun
  | [d1, d2] => { results := [.lit (.bool true)], args := [d1, d2] }
  | _ => none }
def fenceOnesRow : OpenClaim := { program := "ytkllhfajldnpoaa", sum := "1bb5f11015ea41315d345607aec0186b49b063e36f08db93b9b6c4e9b12af682", func := "rewind/rewindlaw08.FenceOnes", spec := "fenceOnes", unfollowed := true, recurses := true, apart := false }
def FenceOnesSaid : Prop := fenceOnesRow.holds Try.pinned (OpenSpec.ofChange fenceOnesSpec)

/-- ITS FALSE NEIGHBOUR: 'it returns false'. Refute it at one input. -/
def fenceOnesWrong : ChangeSpec := { name := "fenceOnes", fn := fun _ => fun
  | [d1, d2] => { results := [.lit (.bool false)], args := [d1, d2] }
  | _ => none }
def FenceOnesWrongFalsely : Prop := fenceOnesRow.holds Try.pinned (OpenSpec.ofChange fenceOnesWrong)

/-- 'rewindlaw08.FenceLasts': WHATEVER THE INPUT: true; the input reads as it did. -/
def fenceLastsSpec : ChangeSpec := { name := "fenceLasts", fn := fun _ => fun
  | [d] => { results := [.lit (.bool true)], args := [d] }
  | _ => none }
def fenceLastsRow : OpenClaim := { program := "ytkllhfajldnpoaa", sum := "1bb5f11015ea41315d345607aec0186b49b063e36f08db93b9b6c4e9b12af682", func := "rewind/rewindlaw08.FenceLasts", spec := "fenceLasts", unfollowed := true, recurses := true, apart := false }
def FenceLastsSaid : Prop := fenceLastsRow.holds Try.pinned (OpenSpec.ofChange fenceLastsSpec)

/-- ITS FALSE NEIGHBOUR: 'it returns false'. Refute it at one input. -/
def fenceLastsWrong : ChangeSpec := { name := "fenceLasts", fn := fun _ => fun
  | [d] => { results := [.lit (.bool false)], args := [d] }
  | _ => none }
def FenceLastsWrongFalsely : Prop := fenceLastsRow.holds Try.pinned (OpenSpec.ofChange fenceLastsWrong)

/-- 'rewindlaw08.FenceRows': WHATEVER THE INPUT: true; the input reads as it did. -/
def fenceRowsSpec : ChangeSpec := { name := "fenceRows", fn := fun _ => fun
  | [d1, d2] => { results := [.lit (.bool true)], args := [d1, d2] }
  | _ => none }
def fenceRowsRow : OpenClaim := { program := "ytkllhfajldnpoaa", sum := "1bb5f11015ea41315d345607aec0186b49b063e36f08db93b9b6c4e9b12af682", func := "rewind/rewindlaw08.FenceRows", spec := "fenceRows", unfollowed := true, recurses := true, apart := false }
def FenceRowsSaid : Prop := fenceRowsRow.holds Try.pinned (OpenSpec.ofChange fenceRowsSpec)

/-- ITS FALSE NEIGHBOUR: 'it returns false'. Refute it at one input. -/
def fenceRowsWrong : ChangeSpec := { name := "fenceRows", fn := fun _ => fun
  | [d1, d2] => { results := [.lit (.bool false)], args := [d1, d2] }
  | _ => none }
def FenceRowsWrongFalsely : Prop := fenceRowsRow.holds Try.pinned (OpenSpec.ofChange fenceRowsWrong)

/-- 'rewindlaw08.FenceChains': WHATEVER THE INPUT: true; the input reads as it did. -/
def fenceChainsSpec : ChangeSpec := { name := "fenceChains", fn := fun _ => fun
  | [d1, d2] => { results := [.lit (.bool true)], args := [d1, d2] }
  | _ => none }
def fenceChainsRow : OpenClaim := { program := "ytkllhfajldnpoaa", sum := "1bb5f11015ea41315d345607aec0186b49b063e36f08db93b9b6c4e9b12af682", func := "rewind/rewindlaw08.FenceChains", spec := "fenceChains", unfollowed := true, recurses := true, apart := false }
def FenceChainsSaid : Prop := fenceChainsRow.holds Try.pinned (OpenSpec.ofChange fenceChainsSpec)

/-- ITS FALSE NEIGHBOUR: 'it returns false'. Refute it at one input. -/
def fenceChainsWrong : ChangeSpec := { name := "fenceChains", fn := fun _ => fun
  | [d1, d2] => { results := [.lit (.bool false)], args := [d1, d2] }
  | _ => none }
def FenceChainsWrongFalsely : Prop := fenceChainsRow.holds Try.pinned (OpenSpec.ofChange fenceChainsWrong)

/-- 'rewindlaw08.FenceAlls': WHATEVER THE INPUT: true; the input reads as it did. -/
def fenceAllsSpec : ChangeSpec := { name := "fenceAlls", fn := fun _ => fun
  | [d1, d2, d3] => { results := [.lit (.bool true)], args := [d1, d2, d3] }
  | _ => none }
def fenceAllsRow : OpenClaim := { program := "ytkllhfajldnpoaa", sum := "1bb5f11015ea41315d345607aec0186b49b063e36f08db93b9b6c4e9b12af682", func := "rewind/rewindlaw08.FenceAlls", spec := "fenceAlls", unfollowed := true, recurses := true, apart := false }
def FenceAllsSaid : Prop := fenceAllsRow.holds Try.pinned (OpenSpec.ofChange fenceAllsSpec)

/-- ITS FALSE NEIGHBOUR: 'it returns false'. Refute it at one input. -/
def fenceAllsWrong : ChangeSpec := { name := "fenceAlls", fn := fun _ => fun
  | [d1, d2, d3] => { results := [.lit (.bool false)], args := [d1, d2, d3] }
  | _ => none }
def FenceAllsWrongFalsely : Prop := fenceAllsRow.holds Try.pinned (OpenSpec.ofChange fenceAllsWrong)

/-- 'rewindlaw09.LeanFalls': WHATEVER THE INPUT: true; the input reads as it did. -/
def leanFallsSpec : ChangeSpec := { name := "leanFalls", fn := fun _ => fun
  | [d] => { results := [.lit (.bool true)], args := [d] }
  | _ => none }
def leanFallsRow : OpenClaim := { program := "ytkllhfajldnpoaa", sum := "1bb5f11015ea41315d345607aec0186b49b063e36f08db93b9b6c4e9b12af682", func := "rewind/rewindlaw09.LeanFalls", spec := "leanFalls", unfollowed := true, recurses := true, apart := false }
def LeanFallsSaid : Prop := leanFallsRow.holds Try.pinned (OpenSpec.ofChange leanFallsSpec)

/-- ITS FALSE NEIGHBOUR: 'it returns false'. Refute it at one input. -/
def leanFallsWrong : ChangeSpec := { name := "leanFalls", fn := fun _ => fun
  | [d] => { results := [.lit (.bool false)], args := [d] }
  | _ => none }
def LeanFallsWrongFalsely : Prop := leanFallsRow.holds Try.pinned (OpenSpec.ofChange leanFallsWrong)

/- THE SECOND FORM. 'bulk': how many values and letters a reading holds, each counted each time it is reached (what is shared counts as often as it is met; a slice's spare places count too). A statement '..UptoSaid' is the law's where the arguments, and the package variables that the reading takes, are together of bulk at most 1048576: NARROWER than '..Said'. Prove '..Said' where nothing that the law and all that it calls make is longer than what came in: it says more and counts as full. Else prove '..UptoSaid'. A law counts once. -/
mutual
def uptoBulk {H : Type} : DataW H → Nat
  | .lit (.string bytes) => bytes.length + 1
  | .lit _ => 1
  | .nil => 1
  | .ptr d => uptoBulk d + 1
  | .slice elems spare => uptoBulkAll elems + uptoBulkAll spare + 1
  | .agg parts => uptoBulkAll parts + 1
  | .iface _ d => uptoBulk d + 1
  | .map entries => uptoBulkEntries entries + 1
  | .held _ => 1
def uptoBulkAll {H : Type} : List (DataW H) → Nat
  | [] => 0
  | d :: r => uptoBulk d + uptoBulkAll r
def uptoBulkEntries {H : Type} : List (Lit × DataW H) → Nat
  | [] => 0
  | x :: r => uptoBulkEntry x + uptoBulkEntries r
def uptoBulkEntry {H : Type} : Lit × DataW H → Nat
  | (.string bytes, d) => bytes.length + uptoBulk d + 1
  | (_, d) => uptoBulk d + 1
 end
def uptoSmall : (H : Type) → List (DataW H) → Bool := fun _ ds => decide (uptoBulkAll ds ≤ 1048576)
def OpenSpec.upto (s : _root_.Go.ChangeSpec) : _root_.Go.OpenSpec := { _root_.Go.OpenSpec.ofChange s with cond := some uptoSmall }

/-- 'rewindlaw08.FenceNexts', WHERE WHAT IT READS IS OF BULK AT MOST 1048576: true; the input reads as it did. -/
def fenceNextsUptoRow : OpenClaim := { program := "ytkllhfajldnpoaa", sum := "1bb5f11015ea41315d345607aec0186b49b063e36f08db93b9b6c4e9b12af682", func := "rewind/rewindlaw08.FenceNexts", spec := "fenceNexts", unfollowed := true, recurses := true, apart := false, narrowed := true }
def FenceNextsUptoSaid : Prop := fenceNextsUptoRow.holds Try.pinned (OpenSpec.upto fenceNextsSpec)

/-- 'rewindlaw08.FenceOnes', WHERE WHAT IT READS IS OF BULK AT MOST 1048576: true; the input reads as it did. -/
def fenceOnesUptoRow : OpenClaim := { program := "ytkllhfajldnpoaa", sum := "1bb5f11015ea41315d345607aec0186b49b063e36f08db93b9b6c4e9b12af682", func := "rewind/rewindlaw08.FenceOnes", spec := "fenceOnes", unfollowed := true, recurses := true, apart := false, narrowed := true }
def FenceOnesUptoSaid : Prop := fenceOnesUptoRow.holds Try.pinned (OpenSpec.upto fenceOnesSpec)

/-- 'rewindlaw08.FenceLasts', WHERE WHAT IT READS IS OF BULK AT MOST 1048576: true; the input reads as it did. -/
def fenceLastsUptoRow : OpenClaim := { program := "ytkllhfajldnpoaa", sum := "1bb5f11015ea41315d345607aec0186b49b063e36f08db93b9b6c4e9b12af682", func := "rewind/rewindlaw08.FenceLasts", spec := "fenceLasts", unfollowed := true, recurses := true, apart := false, narrowed := true }
def FenceLastsUptoSaid : Prop := fenceLastsUptoRow.holds Try.pinned (OpenSpec.upto fenceLastsSpec)

/-- 'rewindlaw08.FenceRows', WHERE WHAT IT READS IS OF BULK AT MOST 1048576: true; the input reads as it did. -/
def fenceRowsUptoRow : OpenClaim := { program := "ytkllhfajldnpoaa", sum := "1bb5f11015ea41315d345607aec0186b49b063e36f08db93b9b6c4e9b12af682", func := "rewind/rewindlaw08.FenceRows", spec := "fenceRows", unfollowed := true, recurses := true, apart := false, narrowed := true }
def FenceRowsUptoSaid : Prop := fenceRowsUptoRow.holds Try.pinned (OpenSpec.upto fenceRowsSpec)

/-- 'rewindlaw08.FenceChains', WHERE WHAT IT READS IS OF BULK AT MOST 1048576: true; the input reads as it did. -/
def fenceChainsUptoRow : OpenClaim := { program := "ytkllhfajldnpoaa", sum := "1bb5f11015ea41315d345607aec0186b49b063e36f08db93b9b6c4e9b12af682", func := "rewind/rewindlaw08.FenceChains", spec := "fenceChains", unfollowed := true, recurses := true, apart := false, narrowed := true }
def FenceChainsUptoSaid : Prop := fenceChainsUptoRow.holds Try.pinned (OpenSpec.upto fenceChainsSpec)

/-- 'rewindlaw08.FenceAlls', WHERE WHAT IT READS IS OF BULK AT MOST 1048576: true; the input reads as it did. -/
def fenceAllsUptoRow : OpenClaim := { program := "ytkllhfajldnpoaa", sum := "1bb5f11015ea41315d345607aec0186b49b063e36f08db93b9b6c4e9b12af682", func := "rewind/rewindlaw08.FenceAlls", spec := "fenceAlls", unfollowed := true, recurses := true, apart := false, narrowed := true }
def FenceAllsUptoSaid : Prop := fenceAllsUptoRow.holds Try.pinned (OpenSpec.upto fenceAllsSpec)

/-- 'rewindlaw09.LeanFalls', WHERE WHAT IT READS IS OF BULK AT MOST 1048576: true; the input reads as it did. -/
def leanFallsUptoRow : OpenClaim := { program := "ytkllhfajldnpoaa", sum := "1bb5f11015ea41315d345607aec0186b49b063e36f08db93b9b6c4e9b12af682", func := "rewind/rewindlaw09.LeanFalls", spec := "leanFalls", unfollowed := true, recurses := true, apart := false, narrowed := true }
def LeanFallsUptoSaid : Prop := leanFallsUptoRow.holds Try.pinned (OpenSpec.upto leanFallsSpec)

end Rows
end Go.Proofs.Ytkllhfajldnpoaa
