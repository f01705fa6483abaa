/- The abstract machine: the tables of cosines and sines as a summary: definitions alone; no condition. The abstract machine: irfft.made as a summary: definitions alone; no condition. No condition. -/
import Derived.Test.YtdflbipaicpdcaaGreatDoorXTd
import Derived.Test.YtdflbipaicpdcaaGreatDoorXTe
import Derived.Test.YtdflbipaicpdcaaGreatDoorXTf
namespace Go.AM
open Go Go.Proofs
def tabT : List KeyT := [tab_0_0, tab_1_1, tab_2_2, tab_3_4, tab_3_1, tab_4_2, tab_5_4, tab_4_8, tab_6_8, tab_5_16, tab_7_16, tab_8_32, tab_6_32]
noncomputable section
def listU : List (Nat × PF) := (44, memTab tabT) :: listT
def plugU : Plug := plugOf listU
end
end Go.AM
namespace Go.AM
open Go
noncomputable section
def evenK : Value := .string ⟨#[101, 118, 101, 110]⟩
def oddK : Value := .string ⟨#[111, 100, 100]⟩
def madeF : PF := fun args _ s =>
  match args with
  | [.agg a, .agg b] => match a.toList with
    | [.float .f64 a0, .float .f64 a1] => match b.toList with
      | [.float .f64 b0, .float .f64 b1] =>
        node s 1 a0 b0 fun p s => node s 2 a1 b1 fun q s => node s 3 p 4602678819172646912 fun p s => node s 3 q 4602678819172646912 fun q s =>
        node s 2 a0 b0 fun x s => node s 1 a1 b1 fun y s => node s 3 x 4602678819172646912 fun x s => node s 3 y 4602678819172646912 fun y s =>
        match new s (.map [(evenK, .agg #[.float .f64 p, .float .f64 q], 0), (oddK, .agg #[.float .f64 x, .float .f64 y], 1)] 2) with
        | some (b, s) => some (.map (some b), s)
        | none => none
      | _ => none
    | _ => none
  | _ => none
def listV : List (Nat × PF) := (136, madeF) :: listU
def plugV : Plug := plugOf listV
end
end Go.AM
