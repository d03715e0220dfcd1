/- Deep blocks: the last ones. No program. -/
import Derived.Test.YtgnkdeapifbgeaaDoorIa
namespace Go.Proofs.YtgnkdeapifbgeaaDoor.Sy
open Go
set_option maxRecDepth 100000
theorem blocksA_60 : chkB 60 = true := by decide +kernel
theorem blocksA_61 : chkB 61 = true := by decide +kernel
theorem blocksA_62 : chkB 62 = true := by decide +kernel
theorem blocksA_63 : chkB 63 = true := by decide +kernel
theorem blocksA_64 : chkB 64 = true := by decide +kernel
theorem blocksA_65 : chkB 65 = true := by decide +kernel
theorem blocksA_66 : chkB 66 = true := by decide +kernel
theorem blocksA_67 : chkB 67 = true := by decide +kernel
theorem blocksA_68 : chkB 68 = true := by decide +kernel
theorem blocksA_69 : chkB 69 = true := by decide +kernel
end Go.Proofs.YtgnkdeapifbgeaaDoor.Sy
