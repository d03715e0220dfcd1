/- Pages: the laid tables (no walk reads them). -/
import Derived.Test.YtimgapkngjkagaaDoorRows
import Derived.Test.YtimgapkngjkagaaDoorPl
import Derived.Lay
import Derived.LaidMore
namespace Go.Proofs.YtimgapkngjkagaaDoor
open Go Go.RowKit Fw
namespace Pg
def laid : List (String × DataW Unit) := [("unicode/utf8.acceptRanges", Rows.laid_unicode_utf8_acceptRanges), ("unicode/utf8.first", Rows.laid_unicode_utf8_first)]
theorem glob_of_laid {W : World} (_ : laidMetH Tryd.prog laid W) : True := trivial
/-- A world that has them. -/
theorem lay_met (os : Os) (args : Array Value) : laidMetH Tryd.prog laid ((World.laidAll Tryd.prog os laid).forCall (fun _ _ => 0) ⟨#[], args, []⟩).memory := by
  rw [MakeChecks.laidMetH_plain _ _ _ (by kernel_rfl)]
  exact laidMet_laidAll _ (by kernel_rfl) (by kernel_rfl)
end Pg
end Go.Proofs.YtimgapkngjkagaaDoor
