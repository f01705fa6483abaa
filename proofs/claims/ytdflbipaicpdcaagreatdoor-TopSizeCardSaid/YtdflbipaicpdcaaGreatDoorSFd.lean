/- The abstract machine: the tables of cosines and sines. Definitions alone; no condition. No condition. -/
import Derived.Test.YtdflbipaicpdcaaGreatDoorSC0
import Derived.Test.YtdflbipaicpdcaaGreatDoorSC1
import Derived.Test.YtdflbipaicpdcaaGreatDoorSC2
import Derived.Test.YtdflbipaicpdcaaGreatDoorSC3
namespace Go.AM
open Go Go.Proofs
def cosTab : List KeyF := cos0 ++ (cos1 ++ (cos2 ++ (cos3 ++ (cos4 ++ (cos5 ++ (cos6 ++ (cos7 ++ (cos8 ++ (cos9 ++ (cos10 ++ (cos11)))))))))))
def sinTab : List KeyF := sin0 ++ (sin1 ++ (sin2 ++ (sin3 ++ (sin4 ++ (sin5 ++ (sin6 ++ (sin7 ++ (sin8 ++ (sin9 ++ (sin10 ++ (sin11)))))))))))
noncomputable section
def listT : List (Nat × PF) := listF ++ ((159, memF cosTab) :: (160, memF sinTab) :: listR)
def plugT : Plug := plugOf listT
end
end Go.AM
