/- head comes to true: a kernel run by the abstract machine. No condition. -/
import Derived.Test.YtdflbipaicpdcaaGreatDoorSHs
set_option maxRecDepth 1000000
namespace Go.AM
open Go Go.Proofs
theorem head_run : runB Tryz.prog plugK 5 = true := by kernel_rfl
end Go.AM
