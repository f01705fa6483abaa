/- TopPairs comes to true of rows of 37, 38, 39, 40, 41 unknown floats: kernel runs by the abstract machine. TopPairs comes to true of rows of 42, 43, 44, 45, 46 unknown floats: kernel runs by the abstract machine. No condition. -/
import Derived.Test.YtdflbipaicpdcaaGreatDoorXUb
import Derived.KernelRfl
set_option maxRecDepth 1000000
namespace Go.AM
open Go Go.Proofs
theorem pairs_Ve : runsL Tryz.prog plugE 3 [37, 38, 39, 40, 41] = true := by kernel_rfl
end Go.AM
set_option maxRecDepth 1000000
namespace Go.AM
open Go Go.Proofs
theorem pairs_Vf : runsL Tryz.prog plugE 3 [42, 43, 44, 45, 46] = true := by kernel_rfl
end Go.AM
