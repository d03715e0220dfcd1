/- Tokens: what the laid tables give a walk; a world that has them. -/
import Derived.Test.YtgnkdeapifbgeaaDoorRows
import Derived.Test.YtgnkdeapifbgeaaDoorTc
import Derived.Test.YtgnkdeapifbgeaaDoorFz
import Derived.ProofKit
import Derived.Stop.Joined
namespace Go.Proofs.YtgnkdeapifbgeaaDoor
open Go.ChangeShapes Go.WideShapes Go.ChangeAt Go.RowKit
namespace Tk
def laid : List (String × DataW Unit) := [("rewind/token.words", Rows.laid_rewind_token_words), ("rewind/token.pairs", Rows.laid_rewind_token_pairs)]
theorem gWords : Tryd.prog.globalNamed "rewind/token.words" = some 0 := by kernel_rfl
theorem gPairs : Tryd.prog.globalNamed "rewind/token.pairs" = some 1 := by kernel_rfl
theorem tWords : (Tryd.prog.globals[0]?).map (·.type) = some 96 := by kernel_rfl
theorem tPairs : (Tryd.prog.globals[1]?).map (·.type) = some 101 := by kernel_rfl
theorem glob_of_laid {W : World} (h : laidMetH Tryd.prog laid W) : Glob W := by
  rw [MakeChecks.laidMetH_plain _ _ _ (by kernel_rfl)] at h
  obtain ⟨ps, ⟨g0, t0, cs0, f0, p0, q0, hg0, ht0, hv0, hd0, ⟨g1, t1, cs1, f1, p1, q1, hg1, ht1, hv1, hd1, _, _⟩, _⟩, _, _⟩ := h
  obtain rfl := Option.some.inj (gWords.symm.trans hg0)
  obtain rfl := Option.some.inj (gPairs.symm.trans hg1)
  obtain rfl := Option.some.inj (tWords.symm.trans ht0)
  obtain rfl := Option.some.inj (tPairs.symm.trans ht1)
  have e0 := Fw.arr_strings (ls := wordsL.map fun l => l.map fun c => c.toNat.toUInt8) Tryd.underlying96 Tryd.underlying9 (by kernel_rfl) hd0
  have e1 := Fw.arr_strings (ls := pairsL.map fun l => l.map fun c => c.toNat.toUInt8) Tryd.underlying101 Tryd.underlying9 (by kernel_rfl) hd1
  constructor
  · intro j s hj
    simp only [wordsB, List.getElem?_map, Option.map_eq_some_iff] at hj
    obtain ⟨l, hl, rfl⟩ := hj
    have := e0 j _ (by rw [List.getElem?_map, hl]; rfl)
    rw [Nat.zero_add, World.var?_cell hg0 hv0 j, ← Array.getElem?_toList, this]
    rfl
  · intro j s hj
    simp only [pairsB, List.getElem?_map, Option.map_eq_some_iff] at hj
    obtain ⟨l, hl, rfl⟩ := hj
    have := e1 j _ (by rw [List.getElem?_map, hl]; rfl)
    rw [Nat.zero_add, World.var?_cell hg1 hv1 j, ← Array.getElem?_toList, this]
    rfl
/-- The door's own heap meets the condition. -/
theorem door_met (os : Os) (args : Array Value) : laidMetH Tryd.prog laid ((World.doorLaid Tryd.prog 400 os).forCall (fun _ _ => 0) ⟨#[], args, []⟩).memory :=
  laidMetH_of_parts3 (fuel := 8) (laidMet_of_run' 8 (by kernel_rfl) (by kernel_rfl)) (by kernel_rfl) (by kernel_rfl)
end Tk
end Go.Proofs.YtgnkdeapifbgeaaDoor
