/- TopPairs comes to true of rows of 59, 60, 61 unknown floats: kernel runs by the abstract machine. TopPairs comes to true of rows of 62, 63 unknown floats: kernel runs by the abstract machine. TopPairs comes to true of rows of 2, 4, 8, 16 unknown floats: kernel runs by the abstract machine. No condition. -/
import Derived.Test.YtdflbipaicpdcaaGreatDoorXUb
import Derived.KernelRfl
set_option maxRecDepth 1000000
namespace Go.AM
open Go Go.Proofs
theorem pairs_Vj : runsL Tryz.prog plugE 3 [59, 60, 61] = true := by kernel_rfl
end Go.AM
set_option maxRecDepth 1000000
namespace Go.AM
open Go Go.Proofs
theorem pairs_Vk : runsL Tryz.prog plugE 3 [62, 63] = true := by kernel_rfl
end Go.AM
set_option maxRecDepth 1000000
namespace Go.AM
open Go Go.Proofs
theorem pairs_Vl : runsL Tryz.prog plugP 3 [2, 4, 8, 16] = true := by kernel_rfl
end Go.AM
