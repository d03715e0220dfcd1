/- Deep brackets and signs. No program. -/
import Derived.Test.YtgnkdeapifbgeaaDoorIa
namespace Go.Proofs.YtgnkdeapifbgeaaDoor.Sy
open Go
set_option maxRecDepth 100000
theorem deeps_0_0 : ∀ (k : Fin 14), chkD 0 (0 + k.val) = true := by decide +kernel
theorem deeps_0_1 : ∀ (k : Fin 14), chkD 0 (14 + k.val) = true := by decide +kernel
theorem deeps_0_2 : ∀ (k : Fin 14), chkD 0 (28 + k.val) = true := by decide +kernel
theorem deeps_0_3 : ∀ (k : Fin 14), chkD 0 (42 + k.val) = true := by decide +kernel
theorem deeps_0_4 : ∀ (k : Fin 14), chkD 0 (56 + k.val) = true := by decide +kernel
theorem deeps_1_0 : ∀ (k : Fin 14), chkD 1 (0 + k.val) = true := by decide +kernel
theorem deeps_1_1 : ∀ (k : Fin 14), chkD 1 (14 + k.val) = true := by decide +kernel
theorem deeps_1_2 : ∀ (k : Fin 14), chkD 1 (28 + k.val) = true := by decide +kernel
theorem deeps_1_3 : ∀ (k : Fin 14), chkD 1 (42 + k.val) = true := by decide +kernel
theorem deeps_1_4 : ∀ (k : Fin 14), chkD 1 (56 + k.val) = true := by decide +kernel
theorem deeps_2_0 : ∀ (k : Fin 14), chkD 2 (0 + k.val) = true := by decide +kernel
theorem deeps_2_1 : ∀ (k : Fin 14), chkD 2 (14 + k.val) = true := by decide +kernel
theorem deeps_2_2 : ∀ (k : Fin 14), chkD 2 (28 + k.val) = true := by decide +kernel
theorem deeps_2_3 : ∀ (k : Fin 14), chkD 2 (42 + k.val) = true := by decide +kernel
theorem deeps_2_4 : ∀ (k : Fin 14), chkD 2 (56 + k.val) = true := by decide +kernel
theorem deeps_3_0 : ∀ (k : Fin 14), chkD 3 (0 + k.val) = true := by decide +kernel
theorem deeps_3_1 : ∀ (k : Fin 14), chkD 3 (14 + k.val) = true := by decide +kernel
theorem deeps_3_2 : ∀ (k : Fin 14), chkD 3 (28 + k.val) = true := by decide +kernel
theorem deeps_3_3 : ∀ (k : Fin 14), chkD 3 (42 + k.val) = true := by decide +kernel
theorem deeps_3_4 : ∀ (k : Fin 14), chkD 3 (56 + k.val) = true := by decide +kernel
end Go.Proofs.YtgnkdeapifbgeaaDoor.Sy
