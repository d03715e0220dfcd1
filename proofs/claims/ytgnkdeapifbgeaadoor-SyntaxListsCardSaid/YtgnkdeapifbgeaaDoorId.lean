/- Lists of arguments: the last ones. No program. -/
import Derived.Test.YtgnkdeapifbgeaaDoorIa
namespace Go.Proofs.YtgnkdeapifbgeaaDoor.Sy
open Go
set_option maxRecDepth 100000
theorem lists_23 : ∀ (j : Fin 30), chkL 23 j.val = true := by decide +kernel
theorem lists_24 : ∀ (j : Fin 30), chkL 24 j.val = true := by decide +kernel
theorem lists_25 : ∀ (j : Fin 30), chkL 25 j.val = true := by decide +kernel
theorem lists_26 : ∀ (j : Fin 30), chkL 26 j.val = true := by decide +kernel
theorem lists_27 : ∀ (j : Fin 30), chkL 27 j.val = true := by decide +kernel
theorem lists_28 : ∀ (j : Fin 30), chkL 28 j.val = true := by decide +kernel
theorem lists_29 : ∀ (j : Fin 30), chkL 29 j.val = true := by decide +kernel
end Go.Proofs.YtgnkdeapifbgeaaDoor.Sy
