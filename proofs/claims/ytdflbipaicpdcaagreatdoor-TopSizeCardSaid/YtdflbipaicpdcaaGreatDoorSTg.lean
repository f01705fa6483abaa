/- The abstract machine: the tables of cosines and sines as a summary: definitions alone; no condition. No condition. -/
import Derived.Test.YtdflbipaicpdcaaGreatDoorSTd
import Derived.Test.YtdflbipaicpdcaaGreatDoorSTe
import Derived.Test.YtdflbipaicpdcaaGreatDoorSTf
namespace Go.AM
open Go Go.Proofs
def tabT : List KeyT := [tab_0_0, tab_1_1, tab_2_2, tab_3_4, tab_3_1, tab_4_2, tab_5_4, tab_4_8, tab_6_8, tab_5_16, tab_7_16, tab_8_32, tab_6_32]
noncomputable section
end
end Go.AM
