/- TopPairs comes to true of rows of 47, 48, 49, 50 unknown floats: kernel runs by the abstract machine. TopPairs comes to true of rows of 51, 52, 53, 54 unknown floats: kernel runs by the abstract machine. TopPairs comes to true of rows of 55, 56, 57, 58 unknown floats: kernel runs by the abstract machine. No condition. -/
import Derived.Test.YtdflbipaicpdcaaGreatDoorXUb
import Derived.KernelRfl
set_option maxRecDepth 1000000
namespace Go.AM
open Go Go.Proofs
theorem pairs_Vg : runsL Tryz.prog plugE 3 [47, 48, 49, 50] = true := by kernel_rfl
end Go.AM
set_option maxRecDepth 1000000
namespace Go.AM
open Go Go.Proofs
theorem pairs_Vh : runsL Tryz.prog plugE 3 [51, 52, 53, 54] = true := by kernel_rfl
end Go.AM
set_option maxRecDepth 1000000
namespace Go.AM
open Go Go.Proofs
theorem pairs_Vi : runsL Tryz.prog plugE 3 [55, 56, 57, 58] = true := by kernel_rfl
end Go.AM
