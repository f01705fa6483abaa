/-
  NARROWER THAN 'FOR EVERY INPUT', by the rows' own cells (each row's printed sentence says how): TurnTells: laid · TurnForm: laid · TurnAdd: laid · TurnSplit: laid · TurnWhole: laid · TurnPlace: laid.
  DERIVED. THE GIVEN ROWS OF THIS SEAT. 6 by the template 'for every input the law returns true; each argument reads behind the call as it read before'; 0 by the template 'total and deterministic' (their statements: YtaempngakollpaaDoorTotals.lean).
  GIVEN WITH THE SEED: the statements are not yours to turn. If you find one false, say at which input.
  Laid BY PROGRAM, IN A SANDBOX (cutbox-rows.mjs): the forced cells as the released guide's own fill.sh prints them over the translation 78f73b0d6bf4f874… (all of the seat's roots in one cut). By AI agents, Wed Nov 11 2026. No macro, syntax, notation, axiom, sorry.
-/
import Derived.Test.YtaempngakollpaaDoorChecked
import GoSem.Claim
import GoSem.ClaimJoined
import GoSem.ClaimMapViews
import Derived.JoinedTies
import Derived.KernelRfl
namespace Go.Proofs.YtaempngakollpaaDoor
/- THE CELL 'sum', in the pinned program and in every row, IS THE sha256 OF THE DUMP (.gsa) THAT YtaempngakollpaaDoorProg.lean LOADS. Nothing in Lean hashes anything: it is a label: what it is worth is what the hold of that sum in a sandbox is worth. -/
noncomputable def Tryd.pinned : Pinned := { name := "ytaempngakollpaadoor", sum := "78f73b0d6bf4f8749c8ff3cd185d234d5b948ce324b01d58ced419cf5321d9ec", checked := Tryd.checked }
namespace Rows
def none {H : Type} : Left H := { results := [], args := [] }

/- WHAT THE LISTED PACKAGE-LEVEL VARIABLES READ AS WHEN THE CALL BEGINS. Each datum BY PROGRAM (the guide's laid-datum.mjs) off the statement by which the dump's own 'gosem.cut.vars' lays the variable. In a bare row this is a premise. The card (YtaempngakollpaaDoorCards.lean) ties it to the program's text. -/
def laid_math_bits_deBruijn32tab {H : Type} : DataW H := .agg [.lit (.int .u8 0), .lit (.int .u8 1), .lit (.int .u8 28), .lit (.int .u8 2), .lit (.int .u8 29), .lit (.int .u8 14), .lit (.int .u8 24), .lit (.int .u8 3), .lit (.int .u8 30), .lit (.int .u8 22), .lit (.int .u8 20), .lit (.int .u8 15), .lit (.int .u8 25), .lit (.int .u8 17), .lit (.int .u8 4), .lit (.int .u8 8), .lit (.int .u8 31), .lit (.int .u8 27), .lit (.int .u8 13), .lit (.int .u8 23), .lit (.int .u8 21), .lit (.int .u8 19), .lit (.int .u8 16), .lit (.int .u8 7), .lit (.int .u8 26), .lit (.int .u8 12), .lit (.int .u8 18), .lit (.int .u8 6), .lit (.int .u8 11), .lit (.int .u8 5), .lit (.int .u8 10), .lit (.int .u8 9)]
def laid_math_bits_deBruijn64tab {H : Type} : DataW H := .agg [.lit (.int .u8 0), .lit (.int .u8 1), .lit (.int .u8 56), .lit (.int .u8 2), .lit (.int .u8 57), .lit (.int .u8 49), .lit (.int .u8 28), .lit (.int .u8 3), .lit (.int .u8 61), .lit (.int .u8 58), .lit (.int .u8 42), .lit (.int .u8 50), .lit (.int .u8 38), .lit (.int .u8 29), .lit (.int .u8 17), .lit (.int .u8 4), .lit (.int .u8 62), .lit (.int .u8 47), .lit (.int .u8 59), .lit (.int .u8 36), .lit (.int .u8 45), .lit (.int .u8 43), .lit (.int .u8 51), .lit (.int .u8 22), .lit (.int .u8 53), .lit (.int .u8 39), .lit (.int .u8 33), .lit (.int .u8 30), .lit (.int .u8 24), .lit (.int .u8 18), .lit (.int .u8 12), .lit (.int .u8 5), .lit (.int .u8 63), .lit (.int .u8 55), .lit (.int .u8 48), .lit (.int .u8 27), .lit (.int .u8 60), .lit (.int .u8 41), .lit (.int .u8 37), .lit (.int .u8 16), .lit (.int .u8 46), .lit (.int .u8 35), .lit (.int .u8 44), .lit (.int .u8 21), .lit (.int .u8 52), .lit (.int .u8 32), .lit (.int .u8 23), .lit (.int .u8 11), .lit (.int .u8 54), .lit (.int .u8 26), .lit (.int .u8 40), .lit (.int .u8 15), .lit (.int .u8 34), .lit (.int .u8 20), .lit (.int .u8 31), .lit (.int .u8 10), .lit (.int .u8 25), .lit (.int .u8 14), .lit (.int .u8 19), .lit (.int .u8 9), .lit (.int .u8 13), .lit (.int .u8 8), .lit (.int .u8 7), .lit (.int .u8 6)]

/-- 'overtonelaw06.TurnTells': WHATEVER THE INPUT: true; the input reads as it did. -/
def turnTellsSpec : ChangeSpec := { name := "turnTells", fn := fun _ => fun
  | [d1, d2, d3, d4, d5] => { results := [.lit (.bool true)], args := [d1, d2, d3, d4, d5] }
  | _ => none }
def turnTellsRow : OpenClaim := { program := "ytaempngakollpaadoor", sum := "78f73b0d6bf4f8749c8ff3cd185d234d5b948ce324b01d58ced419cf5321d9ec", func := "overtone/overtonelaw06.TurnTells", spec := "turnTells", unfollowed := true, recurses := true, named := ["math/bits.deBruijn32tab", "math/bits.deBruijn64tab"], apart := false, laid := [("math/bits.deBruijn32tab", laid_math_bits_deBruijn32tab), ("math/bits.deBruijn64tab", laid_math_bits_deBruijn64tab)] }
def TurnTellsSaid : Prop := turnTellsRow.holds Tryd.pinned (OpenSpec.ofChange turnTellsSpec)

/-- ITS FALSE NEIGHBOUR: 'it returns false'. Refute it at one input. -/
def turnTellsWrong : ChangeSpec := { name := "turnTells", fn := fun _ => fun
  | [d1, d2, d3, d4, d5] => { results := [.lit (.bool false)], args := [d1, d2, d3, d4, d5] }
  | _ => none }
def TurnTellsWrongFalsely : Prop := turnTellsRow.holds Tryd.pinned (OpenSpec.ofChange turnTellsWrong)

/-- 'overtonelaw06.TurnForm': WHATEVER THE INPUT: true; the input reads as it did. -/
def turnFormSpec : ChangeSpec := { name := "turnForm", fn := fun _ => fun
  | [d] => { results := [.lit (.bool true)], args := [d] }
  | _ => none }
def turnFormRow : OpenClaim := { program := "ytaempngakollpaadoor", sum := "78f73b0d6bf4f8749c8ff3cd185d234d5b948ce324b01d58ced419cf5321d9ec", func := "overtone/overtonelaw06.TurnForm", spec := "turnForm", unfollowed := true, recurses := true, named := ["math/bits.deBruijn32tab", "math/bits.deBruijn64tab"], apart := false, laid := [("math/bits.deBruijn32tab", laid_math_bits_deBruijn32tab), ("math/bits.deBruijn64tab", laid_math_bits_deBruijn64tab)] }
def TurnFormSaid : Prop := turnFormRow.holds Tryd.pinned (OpenSpec.ofChange turnFormSpec)

/-- ITS FALSE NEIGHBOUR: 'it returns false'. Refute it at one input. -/
def turnFormWrong : ChangeSpec := { name := "turnForm", fn := fun _ => fun
  | [d] => { results := [.lit (.bool false)], args := [d] }
  | _ => none }
def TurnFormWrongFalsely : Prop := turnFormRow.holds Tryd.pinned (OpenSpec.ofChange turnFormWrong)

/-- 'overtonelaw06.TurnAdd': WHATEVER THE INPUT: true; the input reads as it did. -/
def turnAddSpec : ChangeSpec := { name := "turnAdd", fn := fun _ => fun
  | [d1, d2, d3, d4] => { results := [.lit (.bool true)], args := [d1, d2, d3, d4] }
  | _ => none }
def turnAddRow : OpenClaim := { program := "ytaempngakollpaadoor", sum := "78f73b0d6bf4f8749c8ff3cd185d234d5b948ce324b01d58ced419cf5321d9ec", func := "overtone/overtonelaw06.TurnAdd", spec := "turnAdd", unfollowed := true, recurses := true, named := ["math/bits.deBruijn32tab", "math/bits.deBruijn64tab"], apart := false, laid := [("math/bits.deBruijn32tab", laid_math_bits_deBruijn32tab), ("math/bits.deBruijn64tab", laid_math_bits_deBruijn64tab)] }
def TurnAddSaid : Prop := turnAddRow.holds Tryd.pinned (OpenSpec.ofChange turnAddSpec)

/-- ITS FALSE NEIGHBOUR: 'it returns false'. Refute it at one input. -/
def turnAddWrong : ChangeSpec := { name := "turnAdd", fn := fun _ => fun
  | [d1, d2, d3, d4] => { results := [.lit (.bool false)], args := [d1, d2, d3, d4] }
  | _ => none }
def TurnAddWrongFalsely : Prop := turnAddRow.holds Tryd.pinned (OpenSpec.ofChange turnAddWrong)

/-- 'overtonelaw06.TurnSplit': WHATEVER THE INPUT: true; the input reads as it did. -/
def turnSplitSpec : ChangeSpec := { name := "turnSplit", fn := fun _ => fun
  | [d] => { results := [.lit (.bool true)], args := [d] }
  | _ => none }
def turnSplitRow : OpenClaim := { program := "ytaempngakollpaadoor", sum := "78f73b0d6bf4f8749c8ff3cd185d234d5b948ce324b01d58ced419cf5321d9ec", func := "overtone/overtonelaw06.TurnSplit", spec := "turnSplit", unfollowed := true, recurses := true, named := ["math/bits.deBruijn32tab", "math/bits.deBruijn64tab"], apart := false, laid := [("math/bits.deBruijn32tab", laid_math_bits_deBruijn32tab), ("math/bits.deBruijn64tab", laid_math_bits_deBruijn64tab)] }
def TurnSplitSaid : Prop := turnSplitRow.holds Tryd.pinned (OpenSpec.ofChange turnSplitSpec)

/-- ITS FALSE NEIGHBOUR: 'it returns false'. Refute it at one input. -/
def turnSplitWrong : ChangeSpec := { name := "turnSplit", fn := fun _ => fun
  | [d] => { results := [.lit (.bool false)], args := [d] }
  | _ => none }
def TurnSplitWrongFalsely : Prop := turnSplitRow.holds Tryd.pinned (OpenSpec.ofChange turnSplitWrong)

/-- 'overtonelaw06.TurnWhole': WHATEVER THE INPUT: true; the input reads as it did. -/
def turnWholeSpec : ChangeSpec := { name := "turnWhole", fn := fun _ => fun
  | [d1, d2, d3] => { results := [.lit (.bool true)], args := [d1, d2, d3] }
  | _ => none }
def turnWholeRow : OpenClaim := { program := "ytaempngakollpaadoor", sum := "78f73b0d6bf4f8749c8ff3cd185d234d5b948ce324b01d58ced419cf5321d9ec", func := "overtone/overtonelaw06.TurnWhole", spec := "turnWhole", unfollowed := true, recurses := true, named := ["math/bits.deBruijn32tab", "math/bits.deBruijn64tab"], apart := false, laid := [("math/bits.deBruijn32tab", laid_math_bits_deBruijn32tab), ("math/bits.deBruijn64tab", laid_math_bits_deBruijn64tab)] }
def TurnWholeSaid : Prop := turnWholeRow.holds Tryd.pinned (OpenSpec.ofChange turnWholeSpec)

/-- ITS FALSE NEIGHBOUR: 'it returns false'. Refute it at one input. -/
def turnWholeWrong : ChangeSpec := { name := "turnWhole", fn := fun _ => fun
  | [d1, d2, d3] => { results := [.lit (.bool false)], args := [d1, d2, d3] }
  | _ => none }
def TurnWholeWrongFalsely : Prop := turnWholeRow.holds Tryd.pinned (OpenSpec.ofChange turnWholeWrong)

/-- 'overtonelaw06.TurnPlace': WHATEVER THE INPUT: true; the input reads as it did. -/
def turnPlaceSpec : ChangeSpec := { name := "turnPlace", fn := fun _ => fun
  | [d] => { results := [.lit (.bool true)], args := [d] }
  | _ => none }
def turnPlaceRow : OpenClaim := { program := "ytaempngakollpaadoor", sum := "78f73b0d6bf4f8749c8ff3cd185d234d5b948ce324b01d58ced419cf5321d9ec", func := "overtone/overtonelaw06.TurnPlace", spec := "turnPlace", unfollowed := true, recurses := true, named := ["math/bits.deBruijn32tab", "math/bits.deBruijn64tab"], apart := false, laid := [("math/bits.deBruijn32tab", laid_math_bits_deBruijn32tab), ("math/bits.deBruijn64tab", laid_math_bits_deBruijn64tab)] }
def TurnPlaceSaid : Prop := turnPlaceRow.holds Tryd.pinned (OpenSpec.ofChange turnPlaceSpec)

/-- ITS FALSE NEIGHBOUR: 'it returns false'. Refute it at one input. -/
def turnPlaceWrong : ChangeSpec := { name := "turnPlace", fn := fun _ => fun
  | [d] => { results := [.lit (.bool false)], args := [d] }
  | _ => none }
def TurnPlaceWrongFalsely : Prop := turnPlaceRow.holds Tryd.pinned (OpenSpec.ofChange turnPlaceWrong)

/- THE SECOND FORM. 'bulk': how many values and letters a reading holds, each counted each time it is reached (what is shared counts as often as it is met; a slice's spare places count too). A statement '..UptoSaid' is the law's where the arguments, and the package variables that the reading takes, are together of bulk at most 1048576: NARROWER than '..Said'. Prove '..Said' where nothing that the law and all that it calls make is longer than what came in: it says more and counts as full. Else prove '..UptoSaid'. A law counts once. -/
mutual
def uptoBulk {H : Type} : DataW H → Nat
  | .lit (.string bytes) => bytes.length + 1
  | .lit _ => 1
  | .nil => 1
  | .ptr d => uptoBulk d + 1
  | .slice elems spare => uptoBulkAll elems + uptoBulkAll spare + 1
  | .agg parts => uptoBulkAll parts + 1
  | .iface _ d => uptoBulk d + 1
  | .map entries => uptoBulkEntries entries + 1
  | .held _ => 1
def uptoBulkAll {H : Type} : List (DataW H) → Nat
  | [] => 0
  | d :: r => uptoBulk d + uptoBulkAll r
def uptoBulkEntries {H : Type} : List (Lit × DataW H) → Nat
  | [] => 0
  | x :: r => uptoBulkEntry x + uptoBulkEntries r
def uptoBulkEntry {H : Type} : Lit × DataW H → Nat
  | (.string bytes, d) => bytes.length + uptoBulk d + 1
  | (_, d) => uptoBulk d + 1
 end
def uptoSmall : (H : Type) → List (DataW H) → Bool := fun _ ds => decide (uptoBulkAll ds ≤ 1048576)
def OpenSpec.upto (s : _root_.Go.ChangeSpec) : _root_.Go.OpenSpec := { _root_.Go.OpenSpec.ofChange s with cond := some uptoSmall }

/-- 'overtonelaw06.TurnTells', WHERE WHAT IT READS IS OF BULK AT MOST 1048576: true; the input reads as it did. -/
def turnTellsUptoRow : OpenClaim := { program := "ytaempngakollpaadoor", sum := "78f73b0d6bf4f8749c8ff3cd185d234d5b948ce324b01d58ced419cf5321d9ec", func := "overtone/overtonelaw06.TurnTells", spec := "turnTells", unfollowed := true, recurses := true, named := ["math/bits.deBruijn32tab", "math/bits.deBruijn64tab"], apart := false, laid := [("math/bits.deBruijn32tab", laid_math_bits_deBruijn32tab), ("math/bits.deBruijn64tab", laid_math_bits_deBruijn64tab)], narrowed := true }
def TurnTellsUptoSaid : Prop := turnTellsUptoRow.holds Tryd.pinned (OpenSpec.upto turnTellsSpec)

/-- 'overtonelaw06.TurnForm', WHERE WHAT IT READS IS OF BULK AT MOST 1048576: true; the input reads as it did. -/
def turnFormUptoRow : OpenClaim := { program := "ytaempngakollpaadoor", sum := "78f73b0d6bf4f8749c8ff3cd185d234d5b948ce324b01d58ced419cf5321d9ec", func := "overtone/overtonelaw06.TurnForm", spec := "turnForm", unfollowed := true, recurses := true, named := ["math/bits.deBruijn32tab", "math/bits.deBruijn64tab"], apart := false, laid := [("math/bits.deBruijn32tab", laid_math_bits_deBruijn32tab), ("math/bits.deBruijn64tab", laid_math_bits_deBruijn64tab)], narrowed := true }
def TurnFormUptoSaid : Prop := turnFormUptoRow.holds Tryd.pinned (OpenSpec.upto turnFormSpec)

/-- 'overtonelaw06.TurnAdd', WHERE WHAT IT READS IS OF BULK AT MOST 1048576: true; the input reads as it did. -/
def turnAddUptoRow : OpenClaim := { program := "ytaempngakollpaadoor", sum := "78f73b0d6bf4f8749c8ff3cd185d234d5b948ce324b01d58ced419cf5321d9ec", func := "overtone/overtonelaw06.TurnAdd", spec := "turnAdd", unfollowed := true, recurses := true, named := ["math/bits.deBruijn32tab", "math/bits.deBruijn64tab"], apart := false, laid := [("math/bits.deBruijn32tab", laid_math_bits_deBruijn32tab), ("math/bits.deBruijn64tab", laid_math_bits_deBruijn64tab)], narrowed := true }
def TurnAddUptoSaid : Prop := turnAddUptoRow.holds Tryd.pinned (OpenSpec.upto turnAddSpec)

/-- 'overtonelaw06.TurnSplit', WHERE WHAT IT READS IS OF BULK AT MOST 1048576: true; the input reads as it did. -/
def turnSplitUptoRow : OpenClaim := { program := "ytaempngakollpaadoor", sum := "78f73b0d6bf4f8749c8ff3cd185d234d5b948ce324b01d58ced419cf5321d9ec", func := "overtone/overtonelaw06.TurnSplit", spec := "turnSplit", unfollowed := true, recurses := true, named := ["math/bits.deBruijn32tab", "math/bits.deBruijn64tab"], apart := false, laid := [("math/bits.deBruijn32tab", laid_math_bits_deBruijn32tab), ("math/bits.deBruijn64tab", laid_math_bits_deBruijn64tab)], narrowed := true }
def TurnSplitUptoSaid : Prop := turnSplitUptoRow.holds Tryd.pinned (OpenSpec.upto turnSplitSpec)

/-- 'overtonelaw06.TurnWhole', WHERE WHAT IT READS IS OF BULK AT MOST 1048576: true; the input reads as it did. -/
def turnWholeUptoRow : OpenClaim := { program := "ytaempngakollpaadoor", sum := "78f73b0d6bf4f8749c8ff3cd185d234d5b948ce324b01d58ced419cf5321d9ec", func := "overtone/overtonelaw06.TurnWhole", spec := "turnWhole", unfollowed := true, recurses := true, named := ["math/bits.deBruijn32tab", "math/bits.deBruijn64tab"], apart := false, laid := [("math/bits.deBruijn32tab", laid_math_bits_deBruijn32tab), ("math/bits.deBruijn64tab", laid_math_bits_deBruijn64tab)], narrowed := true }
def TurnWholeUptoSaid : Prop := turnWholeUptoRow.holds Tryd.pinned (OpenSpec.upto turnWholeSpec)

/-- 'overtonelaw06.TurnPlace', WHERE WHAT IT READS IS OF BULK AT MOST 1048576: true; the input reads as it did. -/
def turnPlaceUptoRow : OpenClaim := { program := "ytaempngakollpaadoor", sum := "78f73b0d6bf4f8749c8ff3cd185d234d5b948ce324b01d58ced419cf5321d9ec", func := "overtone/overtonelaw06.TurnPlace", spec := "turnPlace", unfollowed := true, recurses := true, named := ["math/bits.deBruijn32tab", "math/bits.deBruijn64tab"], apart := false, laid := [("math/bits.deBruijn32tab", laid_math_bits_deBruijn32tab), ("math/bits.deBruijn64tab", laid_math_bits_deBruijn64tab)], narrowed := true }
def TurnPlaceUptoSaid : Prop := turnPlaceUptoRow.holds Tryd.pinned (OpenSpec.upto turnPlaceSpec)

end Rows
end Go.Proofs.YtaempngakollpaaDoor
