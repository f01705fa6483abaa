/- The abstract machine: summaries of the transforms, by their templates: definitions alone; no condition. No condition. -/
import Derived.Test.YtdflbipaicpdcaaGreatDoorProg
import Derived.Test.YtdflbipaicpdcaaGreatDoorXTa
import Derived.Test.YtdflbipaicpdcaaGreatDoorXTb
import Derived.Test.YtdflbipaicpdcaaGreatDoorXTc
import Derived.Test.YtdflbipaicpdcaaGreatDoorXTi
import Derived.Test.YtdflbipaicpdcaaGreatDoorXTj
import Derived.Test.YtdflbipaicpdcaaGreatDoorXTk
import Derived.Test.YtdflbipaicpdcaaGreatDoorXTl
import Derived.Test.YtdflbipaicpdcaaGreatDoorXTo
import Derived.Test.YtdflbipaicpdcaaGreatDoorXDe
import Derived.Test.YtdflbipaicpdcaaGreatDoorXQw
namespace Go.AM
open Go Go.Proofs
def tab68 : List (Nat × Tm) := [(2, dcttwo_2), (4, dcttwo_4), (8, dcttwo_8), (16, dcttwo_16), (32, dcttwo_32), (64, dcttwo_64)]
def tab69 : List (Nat × Tm) := [(2, dctthree_2), (4, dctthree_4), (8, dctthree_8), (16, dctthree_16), (32, dctthree_32), (64, dctthree_64)]
def tab70 : List (Nat × Tm) := [(2, dctfour_2), (4, dctfour_4), (8, dctfour_8), (16, dctfour_16), (32, dctfour_32), (64, dctfour_64)]
noncomputable section
def listE : List (Nat × PF) := (5, trueF) :: (9, sameF) :: listV
def plugE : Plug := plugOf listE
def listP : List (Nat × PF) := (68, memT tab68) :: (69, memT tab69) :: (70, memT tab70) :: listE
def plugP : Plug := plugOf listP
end
end Go.AM
