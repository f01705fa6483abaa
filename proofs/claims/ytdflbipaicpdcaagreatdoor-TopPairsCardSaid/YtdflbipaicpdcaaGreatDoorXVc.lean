/- TopPairs comes to true of rows of 24, 25, 26, 27, 28, 29 unknown floats: kernel runs by the abstract machine. TopPairs comes to true of rows of 30, 31, 33, 34, 35, 36 unknown floats: kernel runs by the abstract machine. No condition. -/
import Derived.Test.YtdflbipaicpdcaaGreatDoorXUb
import Derived.KernelRfl
set_option maxRecDepth 1000000
namespace Go.AM
open Go Go.Proofs
theorem pairs_Vc : runsL Tryz.prog plugE 3 [24, 25, 26, 27, 28, 29] = true := by kernel_rfl
end Go.AM
set_option maxRecDepth 1000000
namespace Go.AM
open Go Go.Proofs
theorem pairs_Vd : runsL Tryz.prog plugE 3 [30, 31, 33, 34, 35, 36] = true := by kernel_rfl
end Go.AM
