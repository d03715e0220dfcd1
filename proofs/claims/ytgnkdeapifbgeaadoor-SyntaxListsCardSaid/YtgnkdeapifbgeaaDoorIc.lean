/- Lists of arguments: the next ones. No program. -/
import Derived.Test.YtgnkdeapifbgeaaDoorIa
namespace Go.Proofs.YtgnkdeapifbgeaaDoor.Sy
open Go
set_option maxRecDepth 100000
theorem lists_14 : ∀ (j : Fin 30), chkL 14 j.val = true := by decide +kernel
theorem lists_15 : ∀ (j : Fin 30), chkL 15 j.val = true := by decide +kernel
theorem lists_16 : ∀ (j : Fin 30), chkL 16 j.val = true := by decide +kernel
theorem lists_17 : ∀ (j : Fin 30), chkL 17 j.val = true := by decide +kernel
theorem lists_18 : ∀ (j : Fin 30), chkL 18 j.val = true := by decide +kernel
theorem lists_19 : ∀ (j : Fin 30), chkL 19 j.val = true := by decide +kernel
theorem lists_20 : ∀ (j : Fin 30), chkL 20 j.val = true := by decide +kernel
theorem lists_21 : ∀ (j : Fin 30), chkL 21 j.val = true := by decide +kernel
theorem lists_22 : ∀ (j : Fin 30), chkL 22 j.val = true := by decide +kernel
end Go.Proofs.YtgnkdeapifbgeaaDoor.Sy
