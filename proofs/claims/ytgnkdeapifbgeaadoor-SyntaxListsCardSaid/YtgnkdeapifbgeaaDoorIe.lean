/- Lists with a comma too much. No program. -/
import Derived.Test.YtgnkdeapifbgeaaDoorIa
namespace Go.Proofs.YtgnkdeapifbgeaaDoor.Sy
open Go
set_option maxRecDepth 100000
theorem listsP : ∀ (i : Fin 30), cod (prs (tP i.val)) = 3 := by decide +kernel
theorem listsA : ∀ (i : Fin 30), cod (prs (tA i.val)) = 3 := by decide +kernel
end Go.Proofs.YtgnkdeapifbgeaaDoor.Sy
