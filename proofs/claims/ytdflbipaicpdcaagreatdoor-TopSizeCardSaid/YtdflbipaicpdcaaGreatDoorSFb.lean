/- The abstract machine: the table of circ.rest. Definitions alone; no condition. No condition. -/
import Derived.Test.YtdflbipaicpdcaaGreatDoorSR0
import Derived.Test.YtdflbipaicpdcaaGreatDoorSR1
import Derived.Test.YtdflbipaicpdcaaGreatDoorSR2
import Derived.Test.YtdflbipaicpdcaaGreatDoorSR3
import Derived.Test.YtdflbipaicpdcaaGreatDoorSR4
import Derived.Test.YtdflbipaicpdcaaGreatDoorSR5
import Derived.Test.YtdflbipaicpdcaaGreatDoorSR6
import Derived.Test.YtdflbipaicpdcaaGreatDoorSR7
import Derived.Test.YtdflbipaicpdcaaGreatDoorSDe
namespace Go.AM
open Go Go.Proofs
def restTab : List KeyD := rest0 ++ (rest1 ++ (rest2 ++ (rest3 ++ (rest4 ++ (rest5 ++ (rest6 ++ (rest7 ++ (rest8 ++ (rest9 ++ (rest10 ++ (rest11 ++ (rest12 ++ (rest13 ++ (rest14 ++ (rest15 ++ (rest16 ++ (rest17 ++ (rest18 ++ (rest19 ++ (rest20 ++ (rest21 ++ (rest22 ++ (rest23 ++ (rest24 ++ (rest25 ++ (rest26 ++ (rest27 ++ (rest28 ++ (rest29 ++ (rest30 ++ (rest31 ++ (rest32 ++ (rest33 ++ (rest34 ++ (rest35 ++ (rest36 ++ (rest37 ++ (rest38 ++ (rest39 ++ (rest40 ++ (rest41 ++ (rest42 ++ (rest43 ++ (rest44 ++ (rest45 ++ (rest46 ++ (rest47 ++ (rest48 ++ (rest49 ++ (rest50 ++ (rest51 ++ (rest52 ++ (rest53 ++ (rest54 ++ (rest55 ++ (rest56 ++ (rest57)))))))))))))))))))))))))))))))))))))))))))))))))))))))))
noncomputable section
def listR : List (Nat × PF) := (257, memD restTab) :: listND
def plugR : Plug := plugOf listR
end
end Go.AM
