/- TopPairs comes to true of rows of 64 unknown floats: kernel runs by the abstract machine. No condition. -/
import Derived.Test.YtdflbipaicpdcaaGreatDoorXUb
import Derived.KernelRfl
set_option maxRecDepth 1000000
namespace Go.AM
open Go Go.Proofs
theorem pairs_Vn : runsL Tryz.prog plugP 3 [64] = true := by kernel_rfl
end Go.AM
