/- Deep blocks: the first ones. No program. -/
import Derived.Test.YtgnkdeapifbgeaaDoorIa
namespace Go.Proofs.YtgnkdeapifbgeaaDoor.Sy
open Go
set_option maxRecDepth 100000
theorem blocks_0 : ∀ (k : Fin 5), chkB (0 + k.val) = true := by decide +kernel
theorem blocks_1 : ∀ (k : Fin 5), chkB (5 + k.val) = true := by decide +kernel
theorem blocks_2 : ∀ (k : Fin 5), chkB (10 + k.val) = true := by decide +kernel
theorem blocks_3 : ∀ (k : Fin 5), chkB (15 + k.val) = true := by decide +kernel
theorem blocks_4 : ∀ (k : Fin 5), chkB (20 + k.val) = true := by decide +kernel
theorem blocks_5 : ∀ (k : Fin 5), chkB (25 + k.val) = true := by decide +kernel
theorem blocks_6 : ∀ (k : Fin 5), chkB (30 + k.val) = true := by decide +kernel
theorem blocks_7 : ∀ (k : Fin 5), chkB (35 + k.val) = true := by decide +kernel
theorem blocks_8 : ∀ (k : Fin 5), chkB (40 + k.val) = true := by decide +kernel
theorem blocks_9 : ∀ (k : Fin 5), chkB (45 + k.val) = true := by decide +kernel
end Go.Proofs.YtgnkdeapifbgeaaDoor.Sy
