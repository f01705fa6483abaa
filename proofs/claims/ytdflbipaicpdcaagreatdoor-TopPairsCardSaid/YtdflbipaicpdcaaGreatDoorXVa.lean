/- TopPairs comes to true of rows of 1, 3, 5, 6, 7, 9, 10, 11, 12, 13, 14 unknown floats: kernel runs by the abstract machine. TopPairs comes to true of rows of 15, 17, 18, 19, 20, 21, 22, 23 unknown floats: kernel runs by the abstract machine. No condition. -/
import Derived.Test.YtdflbipaicpdcaaGreatDoorXUb
import Derived.KernelRfl
set_option maxRecDepth 1000000
namespace Go.AM
open Go Go.Proofs
theorem pairs_Va : runsL Tryz.prog plugE 3 [1, 3, 5, 6, 7, 9, 10, 11, 12, 13, 14] = true := by kernel_rfl
theorem pairs_nil : runZ Tryz.prog plugE 3 (.slice none 0 0) = true := by kernel_rfl
theorem pairs_none : runZ Tryz.prog plugE 3 (.slice (some ⟨4, 0, none⟩) 0 OPEN) = true := by kernel_rfl
end Go.AM
set_option maxRecDepth 1000000
namespace Go.AM
open Go Go.Proofs
theorem pairs_Vb : runsL Tryz.prog plugE 3 [15, 17, 18, 19, 20, 21, 22, 23] = true := by kernel_rfl
end Go.AM
