/- TopPairs comes to true of rows of 32 unknown floats: kernel runs by the abstract machine. No condition. -/
import Derived.Test.YtdflbipaicpdcaaGreatDoorXUb
import Derived.KernelRfl
set_option maxRecDepth 1000000
namespace Go.AM
open Go Go.Proofs
theorem pairs_Vm : runsL Tryz.prog plugP 3 [32] = true := by kernel_rfl
end Go.AM
