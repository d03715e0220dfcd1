/- Deep blocks: the next ones. No program. -/
import Derived.Test.YtgnkdeapifbgeaaDoorIa
namespace Go.Proofs.YtgnkdeapifbgeaaDoor.Sy
open Go
set_option maxRecDepth 100000
theorem blocksA_50 : chkB 50 = true := by decide +kernel
theorem blocksA_51 : chkB 51 = true := by decide +kernel
theorem blocksA_52 : chkB 52 = true := by decide +kernel
theorem blocksA_53 : chkB 53 = true := by decide +kernel
theorem blocksA_54 : chkB 54 = true := by decide +kernel
theorem blocksA_55 : chkB 55 = true := by decide +kernel
theorem blocksA_56 : chkB 56 = true := by decide +kernel
theorem blocksA_57 : chkB 57 = true := by decide +kernel
theorem blocksA_58 : chkB 58 = true := by decide +kernel
theorem blocksA_59 : chkB 59 = true := by decide +kernel
end Go.Proofs.YtgnkdeapifbgeaaDoor.Sy
