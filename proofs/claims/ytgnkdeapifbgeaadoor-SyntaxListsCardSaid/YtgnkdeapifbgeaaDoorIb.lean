/- Lists of arguments: the first ones. No program. -/
import Derived.Test.YtgnkdeapifbgeaaDoorIa
namespace Go.Proofs.YtgnkdeapifbgeaaDoor.Sy
open Go
set_option maxRecDepth 100000
theorem lists_0 : ∀ (j : Fin 30), chkL 0 j.val = true := by decide +kernel
theorem lists_1 : ∀ (j : Fin 30), chkL 1 j.val = true := by decide +kernel
theorem lists_2 : ∀ (j : Fin 30), chkL 2 j.val = true := by decide +kernel
theorem lists_3 : ∀ (j : Fin 30), chkL 3 j.val = true := by decide +kernel
theorem lists_4 : ∀ (j : Fin 30), chkL 4 j.val = true := by decide +kernel
theorem lists_5 : ∀ (j : Fin 30), chkL 5 j.val = true := by decide +kernel
theorem lists_6 : ∀ (j : Fin 30), chkL 6 j.val = true := by decide +kernel
theorem lists_7 : ∀ (j : Fin 30), chkL 7 j.val = true := by decide +kernel
theorem lists_8 : ∀ (j : Fin 30), chkL 8 j.val = true := by decide +kernel
theorem lists_9 : ∀ (j : Fin 30), chkL 9 j.val = true := by decide +kernel
theorem lists_10 : ∀ (j : Fin 30), chkL 10 j.val = true := by decide +kernel
theorem lists_11 : ∀ (j : Fin 30), chkL 11 j.val = true := by decide +kernel
theorem lists_12 : ∀ (j : Fin 30), chkL 12 j.val = true := by decide +kernel
theorem lists_13 : ∀ (j : Fin 30), chkL 13 j.val = true := by decide +kernel
end Go.Proofs.YtgnkdeapifbgeaaDoor.Sy
