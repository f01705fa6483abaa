/-
  No cell of these rows narrows 'for every input' (looked for: loops, veiled, ifaces, maps, wideKeys, modest, calm, conditions, laid).
  DERIVED. THE GIVEN ROWS OF THIS SEAT. 12 by the template 'for every input the law returns true; each argument reads behind the call as it read before'; 0 by the template 'total and deterministic' (their statements: YtemneeknemijpaaTotals.lean).
  GIVEN WITH THE SEED: the statements are not yours to turn. If you find one false, say at which input.
  Laid BY PROGRAM, IN A SANDBOX (cutbox-rows.mjs): the forced cells as the released guide's own fill.sh prints them over the translation 7177ae18fba7ed5e… (all of the seat's roots in one cut). By AI agents, Wed Nov 11 2026. No macro, syntax, notation, axiom, sorry.
-/
import Derived.Test.YtemneeknemijpaaChecked
import GoSem.Claim
import GoSem.ClaimJoined
import GoSem.ClaimMapViews
import Derived.JoinedTies
import Derived.KernelRfl
namespace Go.Proofs.Ytemneeknemijpaa
/- THE CELL 'sum', in the pinned program and in every row, IS THE sha256 OF THE DUMP (.gsa) THAT YtemneeknemijpaaProg.lean LOADS. Nothing in Lean hashes anything: it is a label: what it is worth is what the hold of that sum in a sandbox is worth. -/
noncomputable def Try.pinned : Pinned := { name := "ytemneeknemijpaa", sum := "7177ae18fba7ed5ebe33392ee749e2919e184de3565f16e2f24b5aec450215d0", checked := Try.checked }
namespace Rows
def none {H : Type} : Left H := { results := [], args := [] }

/-- 'overtonelaw09.CpxTells': WHATEVER THE INPUT: true; the input reads as it did. -/
def cpxTellsSpec : ChangeSpec := { name := "cpxTells", fn := fun _ => fun
  | [d1, d2, d3, d4] => { results := [.lit (.bool true)], args := [d1, d2, d3, d4] }
  | _ => none }
def cpxTellsRow : OpenClaim := { program := "ytemneeknemijpaa", sum := "7177ae18fba7ed5ebe33392ee749e2919e184de3565f16e2f24b5aec450215d0", func := "overtone/overtonelaw09.CpxTells", spec := "cpxTells", inPlace := ["math.Float64frombits"], unfollowed := true, recurses := true, apart := false }
def CpxTellsSaid : Prop := cpxTellsRow.holds Try.pinned (OpenSpec.ofChange cpxTellsSpec)

/-- ITS FALSE NEIGHBOUR: 'it returns false'. Refute it at one input. -/
def cpxTellsWrong : ChangeSpec := { name := "cpxTells", fn := fun _ => fun
  | [d1, d2, d3, d4] => { results := [.lit (.bool false)], args := [d1, d2, d3, d4] }
  | _ => none }
def CpxTellsWrongFalsely : Prop := cpxTellsRow.holds Try.pinned (OpenSpec.ofChange cpxTellsWrong)

/-- 'overtonelaw09.CpxEither': WHATEVER THE INPUT: true; the input reads as it did. -/
def cpxEitherSpec : ChangeSpec := { name := "cpxEither", fn := fun _ => fun
  | [d1, d2, d3, d4] => { results := [.lit (.bool true)], args := [d1, d2, d3, d4] }
  | _ => none }
def cpxEitherRow : OpenClaim := { program := "ytemneeknemijpaa", sum := "7177ae18fba7ed5ebe33392ee749e2919e184de3565f16e2f24b5aec450215d0", func := "overtone/overtonelaw09.CpxEither", spec := "cpxEither", inPlace := ["math.Float64frombits"], unfollowed := true, recurses := true, apart := false }
def CpxEitherSaid : Prop := cpxEitherRow.holds Try.pinned (OpenSpec.ofChange cpxEitherSpec)

/-- ITS FALSE NEIGHBOUR: 'it returns false'. Refute it at one input. -/
def cpxEitherWrong : ChangeSpec := { name := "cpxEither", fn := fun _ => fun
  | [d1, d2, d3, d4] => { results := [.lit (.bool false)], args := [d1, d2, d3, d4] }
  | _ => none }
def CpxEitherWrongFalsely : Prop := cpxEitherRow.holds Try.pinned (OpenSpec.ofChange cpxEitherWrong)

/-- 'overtonelaw09.CpxInts': WHATEVER THE INPUT: true; the input reads as it did. -/
def cpxIntsSpec : ChangeSpec := { name := "cpxInts", fn := fun _ => fun
  | [d1, d2, d3, d4] => { results := [.lit (.bool true)], args := [d1, d2, d3, d4] }
  | _ => none }
def cpxIntsRow : OpenClaim := { program := "ytemneeknemijpaa", sum := "7177ae18fba7ed5ebe33392ee749e2919e184de3565f16e2f24b5aec450215d0", func := "overtone/overtonelaw09.CpxInts", spec := "cpxInts", inPlace := ["math.Float64frombits"], unfollowed := true, recurses := true, apart := false }
def CpxIntsSaid : Prop := cpxIntsRow.holds Try.pinned (OpenSpec.ofChange cpxIntsSpec)

/-- ITS FALSE NEIGHBOUR: 'it returns false'. Refute it at one input. -/
def cpxIntsWrong : ChangeSpec := { name := "cpxInts", fn := fun _ => fun
  | [d1, d2, d3, d4] => { results := [.lit (.bool false)], args := [d1, d2, d3, d4] }
  | _ => none }
def CpxIntsWrongFalsely : Prop := cpxIntsRow.holds Try.pinned (OpenSpec.ofChange cpxIntsWrong)

/-- 'overtonelaw09.CpxTurn': WHATEVER THE INPUT: true; the input reads as it did. -/
def cpxTurnSpec : ChangeSpec := { name := "cpxTurn", fn := fun _ => fun
  | [d1, d2] => { results := [.lit (.bool true)], args := [d1, d2] }
  | _ => none }
def cpxTurnRow : OpenClaim := { program := "ytemneeknemijpaa", sum := "7177ae18fba7ed5ebe33392ee749e2919e184de3565f16e2f24b5aec450215d0", func := "overtone/overtonelaw09.CpxTurn", spec := "cpxTurn", inPlace := ["math.Float64frombits"], unfollowed := true, recurses := true, apart := false }
def CpxTurnSaid : Prop := cpxTurnRow.holds Try.pinned (OpenSpec.ofChange cpxTurnSpec)

/-- ITS FALSE NEIGHBOUR: 'it returns false'. Refute it at one input. -/
def cpxTurnWrong : ChangeSpec := { name := "cpxTurn", fn := fun _ => fun
  | [d1, d2] => { results := [.lit (.bool false)], args := [d1, d2] }
  | _ => none }
def CpxTurnWrongFalsely : Prop := cpxTurnRow.holds Try.pinned (OpenSpec.ofChange cpxTurnWrong)

/-- 'overtonelaw09.CpxNear': WHATEVER THE INPUT: true; the input reads as it did. -/
def cpxNearSpec : ChangeSpec := { name := "cpxNear", fn := fun _ => fun
  | [d1, d2, d3, d4] => { results := [.lit (.bool true)], args := [d1, d2, d3, d4] }
  | _ => none }
def cpxNearRow : OpenClaim := { program := "ytemneeknemijpaa", sum := "7177ae18fba7ed5ebe33392ee749e2919e184de3565f16e2f24b5aec450215d0", func := "overtone/overtonelaw09.CpxNear", spec := "cpxNear", inPlace := ["math.Float64frombits", "math.Float64bits"], unfollowed := true, recurses := true, apart := false }
def CpxNearSaid : Prop := cpxNearRow.holds Try.pinned (OpenSpec.ofChange cpxNearSpec)

/-- ITS FALSE NEIGHBOUR: 'it returns false'. Refute it at one input. -/
def cpxNearWrong : ChangeSpec := { name := "cpxNear", fn := fun _ => fun
  | [d1, d2, d3, d4] => { results := [.lit (.bool false)], args := [d1, d2, d3, d4] }
  | _ => none }
def CpxNearWrongFalsely : Prop := cpxNearRow.holds Try.pinned (OpenSpec.ofChange cpxNearWrong)

/-- 'overtonelaw09.CpxScale': WHATEVER THE INPUT: true; the input reads as it did. -/
def cpxScaleSpec : ChangeSpec := { name := "cpxScale", fn := fun _ => fun
  | [d1, d2, d3, d4, d5] => { results := [.lit (.bool true)], args := [d1, d2, d3, d4, d5] }
  | _ => none }
def cpxScaleRow : OpenClaim := { program := "ytemneeknemijpaa", sum := "7177ae18fba7ed5ebe33392ee749e2919e184de3565f16e2f24b5aec450215d0", func := "overtone/overtonelaw09.CpxScale", spec := "cpxScale", inPlace := ["math.Float64frombits", "math.Float64bits"], unfollowed := true, recurses := true, apart := false }
def CpxScaleSaid : Prop := cpxScaleRow.holds Try.pinned (OpenSpec.ofChange cpxScaleSpec)

/-- ITS FALSE NEIGHBOUR: 'it returns false'. Refute it at one input. -/
def cpxScaleWrong : ChangeSpec := { name := "cpxScale", fn := fun _ => fun
  | [d1, d2, d3, d4, d5] => { results := [.lit (.bool false)], args := [d1, d2, d3, d4, d5] }
  | _ => none }
def CpxScaleWrongFalsely : Prop := cpxScaleRow.holds Try.pinned (OpenSpec.ofChange cpxScaleWrong)

/-- 'overtonelaw04.OpsTells': WHATEVER THE INPUT: true; the input reads as it did. -/
def opsTellsSpec : ChangeSpec := { name := "opsTells", fn := fun _ => fun
  | [d1, d2, d3] => { results := [.lit (.bool true)], args := [d1, d2, d3] }
  | _ => none }
def opsTellsRow : OpenClaim := { program := "ytemneeknemijpaa", sum := "7177ae18fba7ed5ebe33392ee749e2919e184de3565f16e2f24b5aec450215d0", func := "overtone/overtonelaw04.OpsTells", spec := "opsTells", inPlace := ["math.Float64frombits", "math.sqrt", "math.Float64bits"], unfollowed := true, recurses := true, apart := false }
def OpsTellsSaid : Prop := opsTellsRow.holds Try.pinned (OpenSpec.ofChange opsTellsSpec)

/-- ITS FALSE NEIGHBOUR: 'it returns false'. Refute it at one input. -/
def opsTellsWrong : ChangeSpec := { name := "opsTells", fn := fun _ => fun
  | [d1, d2, d3] => { results := [.lit (.bool false)], args := [d1, d2, d3] }
  | _ => none }
def OpsTellsWrongFalsely : Prop := opsTellsRow.holds Try.pinned (OpenSpec.ofChange opsTellsWrong)

/-- 'overtonelaw04.OpsEither': WHATEVER THE INPUT: true; the input reads as it did. -/
def opsEitherSpec : ChangeSpec := { name := "opsEither", fn := fun _ => fun
  | [d1, d2] => { results := [.lit (.bool true)], args := [d1, d2] }
  | _ => none }
def opsEitherRow : OpenClaim := { program := "ytemneeknemijpaa", sum := "7177ae18fba7ed5ebe33392ee749e2919e184de3565f16e2f24b5aec450215d0", func := "overtone/overtonelaw04.OpsEither", spec := "opsEither", inPlace := ["math.Float64frombits", "math.sqrt", "math.Float64bits"], unfollowed := true, recurses := true, apart := false }
def OpsEitherSaid : Prop := opsEitherRow.holds Try.pinned (OpenSpec.ofChange opsEitherSpec)

/-- ITS FALSE NEIGHBOUR: 'it returns false'. Refute it at one input. -/
def opsEitherWrong : ChangeSpec := { name := "opsEither", fn := fun _ => fun
  | [d1, d2] => { results := [.lit (.bool false)], args := [d1, d2] }
  | _ => none }
def OpsEitherWrongFalsely : Prop := opsEitherRow.holds Try.pinned (OpenSpec.ofChange opsEitherWrong)

/-- 'overtonelaw04.OpsNear': WHATEVER THE INPUT: true; the input reads as it did. -/
def opsNearSpec : ChangeSpec := { name := "opsNear", fn := fun _ => fun
  | [d1, d2, d3] => { results := [.lit (.bool true)], args := [d1, d2, d3] }
  | _ => none }
def opsNearRow : OpenClaim := { program := "ytemneeknemijpaa", sum := "7177ae18fba7ed5ebe33392ee749e2919e184de3565f16e2f24b5aec450215d0", func := "overtone/overtonelaw04.OpsNear", spec := "opsNear", inPlace := ["math.Float64frombits", "math.sqrt", "math.Float64bits"], unfollowed := true, recurses := true, apart := false }
def OpsNearSaid : Prop := opsNearRow.holds Try.pinned (OpenSpec.ofChange opsNearSpec)

/-- ITS FALSE NEIGHBOUR: 'it returns false'. Refute it at one input. -/
def opsNearWrong : ChangeSpec := { name := "opsNear", fn := fun _ => fun
  | [d1, d2, d3] => { results := [.lit (.bool false)], args := [d1, d2, d3] }
  | _ => none }
def OpsNearWrongFalsely : Prop := opsNearRow.holds Try.pinned (OpenSpec.ofChange opsNearWrong)

/-- 'overtonelaw04.OpsRoot': WHATEVER THE INPUT: true; the input reads as it did. -/
def opsRootSpec : ChangeSpec := { name := "opsRoot", fn := fun _ => fun
  | [d] => { results := [.lit (.bool true)], args := [d] }
  | _ => none }
def opsRootRow : OpenClaim := { program := "ytemneeknemijpaa", sum := "7177ae18fba7ed5ebe33392ee749e2919e184de3565f16e2f24b5aec450215d0", func := "overtone/overtonelaw04.OpsRoot", spec := "opsRoot", inPlace := ["math.Float64frombits", "math.sqrt", "math.Float64bits"], unfollowed := true, recurses := true, apart := false }
def OpsRootSaid : Prop := opsRootRow.holds Try.pinned (OpenSpec.ofChange opsRootSpec)

/-- ITS FALSE NEIGHBOUR: 'it returns false'. Refute it at one input. -/
def opsRootWrong : ChangeSpec := { name := "opsRoot", fn := fun _ => fun
  | [d] => { results := [.lit (.bool false)], args := [d] }
  | _ => none }
def OpsRootWrongFalsely : Prop := opsRootRow.holds Try.pinned (OpenSpec.ofChange opsRootWrong)

/-- 'overtonelaw04.OpsExact': WHATEVER THE INPUT: true; the input reads as it did. -/
def opsExactSpec : ChangeSpec := { name := "opsExact", fn := fun _ => fun
  | [d1, d2, d3, d4] => { results := [.lit (.bool true)], args := [d1, d2, d3, d4] }
  | _ => none }
def opsExactRow : OpenClaim := { program := "ytemneeknemijpaa", sum := "7177ae18fba7ed5ebe33392ee749e2919e184de3565f16e2f24b5aec450215d0", func := "overtone/overtonelaw04.OpsExact", spec := "opsExact", inPlace := ["math.Float64frombits", "math.sqrt", "math.Float64bits"], unfollowed := true, recurses := true, apart := false }
def OpsExactSaid : Prop := opsExactRow.holds Try.pinned (OpenSpec.ofChange opsExactSpec)

/-- ITS FALSE NEIGHBOUR: 'it returns false'. Refute it at one input. -/
def opsExactWrong : ChangeSpec := { name := "opsExact", fn := fun _ => fun
  | [d1, d2, d3, d4] => { results := [.lit (.bool false)], args := [d1, d2, d3, d4] }
  | _ => none }
def OpsExactWrongFalsely : Prop := opsExactRow.holds Try.pinned (OpenSpec.ofChange opsExactWrong)

/-- 'overtonelaw04.OpsSum': WHATEVER THE INPUT: true; the input reads as it did. -/
def opsSumSpec : ChangeSpec := { name := "opsSum", fn := fun _ => fun
  | [d1, d2, d3] => { results := [.lit (.bool true)], args := [d1, d2, d3] }
  | _ => none }
def opsSumRow : OpenClaim := { program := "ytemneeknemijpaa", sum := "7177ae18fba7ed5ebe33392ee749e2919e184de3565f16e2f24b5aec450215d0", func := "overtone/overtonelaw04.OpsSum", spec := "opsSum", inPlace := ["math.Float64frombits", "math.sqrt", "math.Float64bits"], unfollowed := true, recurses := true, apart := false }
def OpsSumSaid : Prop := opsSumRow.holds Try.pinned (OpenSpec.ofChange opsSumSpec)

/-- ITS FALSE NEIGHBOUR: 'it returns false'. Refute it at one input. -/
def opsSumWrong : ChangeSpec := { name := "opsSum", fn := fun _ => fun
  | [d1, d2, d3] => { results := [.lit (.bool false)], args := [d1, d2, d3] }
  | _ => none }
def OpsSumWrongFalsely : Prop := opsSumRow.holds Try.pinned (OpenSpec.ofChange opsSumWrong)

/- THE SECOND FORM. 'bulk': how many values and letters a reading holds, each counted each time it is reached (what is shared counts as often as it is met; a slice's spare places count too). A statement '..UptoSaid' is the law's where the arguments, and the package variables that the reading takes, are together of bulk at most 1048576: NARROWER than '..Said'. Prove '..Said' where nothing that the law and all that it calls make is longer than what came in: it says more and counts as full. Else prove '..UptoSaid'. A law counts once. -/
mutual
def uptoBulk {H : Type} : DataW H → Nat
  | .lit (.string bytes) => bytes.length + 1
  | .lit _ => 1
  | .nil => 1
  | .ptr d => uptoBulk d + 1
  | .slice elems spare => uptoBulkAll elems + uptoBulkAll spare + 1
  | .agg parts => uptoBulkAll parts + 1
  | .iface _ d => uptoBulk d + 1
  | .map entries => uptoBulkEntries entries + 1
  | .held _ => 1
def uptoBulkAll {H : Type} : List (DataW H) → Nat
  | [] => 0
  | d :: r => uptoBulk d + uptoBulkAll r
def uptoBulkEntries {H : Type} : List (Lit × DataW H) → Nat
  | [] => 0
  | x :: r => uptoBulkEntry x + uptoBulkEntries r
def uptoBulkEntry {H : Type} : Lit × DataW H → Nat
  | (.string bytes, d) => bytes.length + uptoBulk d + 1
  | (_, d) => uptoBulk d + 1
 end
def uptoSmall : (H : Type) → List (DataW H) → Bool := fun _ ds => decide (uptoBulkAll ds ≤ 1048576)
def OpenSpec.upto (s : _root_.Go.ChangeSpec) : _root_.Go.OpenSpec := { _root_.Go.OpenSpec.ofChange s with cond := some uptoSmall }

/-- 'overtonelaw09.CpxTells', WHERE WHAT IT READS IS OF BULK AT MOST 1048576: true; the input reads as it did. -/
def cpxTellsUptoRow : OpenClaim := { program := "ytemneeknemijpaa", sum := "7177ae18fba7ed5ebe33392ee749e2919e184de3565f16e2f24b5aec450215d0", func := "overtone/overtonelaw09.CpxTells", spec := "cpxTells", inPlace := ["math.Float64frombits"], unfollowed := true, recurses := true, apart := false, narrowed := true }
def CpxTellsUptoSaid : Prop := cpxTellsUptoRow.holds Try.pinned (OpenSpec.upto cpxTellsSpec)

/-- 'overtonelaw09.CpxEither', WHERE WHAT IT READS IS OF BULK AT MOST 1048576: true; the input reads as it did. -/
def cpxEitherUptoRow : OpenClaim := { program := "ytemneeknemijpaa", sum := "7177ae18fba7ed5ebe33392ee749e2919e184de3565f16e2f24b5aec450215d0", func := "overtone/overtonelaw09.CpxEither", spec := "cpxEither", inPlace := ["math.Float64frombits"], unfollowed := true, recurses := true, apart := false, narrowed := true }
def CpxEitherUptoSaid : Prop := cpxEitherUptoRow.holds Try.pinned (OpenSpec.upto cpxEitherSpec)

/-- 'overtonelaw09.CpxInts', WHERE WHAT IT READS IS OF BULK AT MOST 1048576: true; the input reads as it did. -/
def cpxIntsUptoRow : OpenClaim := { program := "ytemneeknemijpaa", sum := "7177ae18fba7ed5ebe33392ee749e2919e184de3565f16e2f24b5aec450215d0", func := "overtone/overtonelaw09.CpxInts", spec := "cpxInts", inPlace := ["math.Float64frombits"], unfollowed := true, recurses := true, apart := false, narrowed := true }
def CpxIntsUptoSaid : Prop := cpxIntsUptoRow.holds Try.pinned (OpenSpec.upto cpxIntsSpec)

/-- 'overtonelaw09.CpxTurn', WHERE WHAT IT READS IS OF BULK AT MOST 1048576: true; the input reads as it did. -/
def cpxTurnUptoRow : OpenClaim := { program := "ytemneeknemijpaa", sum := "7177ae18fba7ed5ebe33392ee749e2919e184de3565f16e2f24b5aec450215d0", func := "overtone/overtonelaw09.CpxTurn", spec := "cpxTurn", inPlace := ["math.Float64frombits"], unfollowed := true, recurses := true, apart := false, narrowed := true }
def CpxTurnUptoSaid : Prop := cpxTurnUptoRow.holds Try.pinned (OpenSpec.upto cpxTurnSpec)

/-- 'overtonelaw09.CpxNear', WHERE WHAT IT READS IS OF BULK AT MOST 1048576: true; the input reads as it did. -/
def cpxNearUptoRow : OpenClaim := { program := "ytemneeknemijpaa", sum := "7177ae18fba7ed5ebe33392ee749e2919e184de3565f16e2f24b5aec450215d0", func := "overtone/overtonelaw09.CpxNear", spec := "cpxNear", inPlace := ["math.Float64frombits", "math.Float64bits"], unfollowed := true, recurses := true, apart := false, narrowed := true }
def CpxNearUptoSaid : Prop := cpxNearUptoRow.holds Try.pinned (OpenSpec.upto cpxNearSpec)

/-- 'overtonelaw09.CpxScale', WHERE WHAT IT READS IS OF BULK AT MOST 1048576: true; the input reads as it did. -/
def cpxScaleUptoRow : OpenClaim := { program := "ytemneeknemijpaa", sum := "7177ae18fba7ed5ebe33392ee749e2919e184de3565f16e2f24b5aec450215d0", func := "overtone/overtonelaw09.CpxScale", spec := "cpxScale", inPlace := ["math.Float64frombits", "math.Float64bits"], unfollowed := true, recurses := true, apart := false, narrowed := true }
def CpxScaleUptoSaid : Prop := cpxScaleUptoRow.holds Try.pinned (OpenSpec.upto cpxScaleSpec)

/-- 'overtonelaw04.OpsTells', WHERE WHAT IT READS IS OF BULK AT MOST 1048576: true; the input reads as it did. -/
def opsTellsUptoRow : OpenClaim := { program := "ytemneeknemijpaa", sum := "7177ae18fba7ed5ebe33392ee749e2919e184de3565f16e2f24b5aec450215d0", func := "overtone/overtonelaw04.OpsTells", spec := "opsTells", inPlace := ["math.Float64frombits", "math.sqrt", "math.Float64bits"], unfollowed := true, recurses := true, apart := false, narrowed := true }
def OpsTellsUptoSaid : Prop := opsTellsUptoRow.holds Try.pinned (OpenSpec.upto opsTellsSpec)

/-- 'overtonelaw04.OpsEither', WHERE WHAT IT READS IS OF BULK AT MOST 1048576: true; the input reads as it did. -/
def opsEitherUptoRow : OpenClaim := { program := "ytemneeknemijpaa", sum := "7177ae18fba7ed5ebe33392ee749e2919e184de3565f16e2f24b5aec450215d0", func := "overtone/overtonelaw04.OpsEither", spec := "opsEither", inPlace := ["math.Float64frombits", "math.sqrt", "math.Float64bits"], unfollowed := true, recurses := true, apart := false, narrowed := true }
def OpsEitherUptoSaid : Prop := opsEitherUptoRow.holds Try.pinned (OpenSpec.upto opsEitherSpec)

/-- 'overtonelaw04.OpsNear', WHERE WHAT IT READS IS OF BULK AT MOST 1048576: true; the input reads as it did. -/
def opsNearUptoRow : OpenClaim := { program := "ytemneeknemijpaa", sum := "7177ae18fba7ed5ebe33392ee749e2919e184de3565f16e2f24b5aec450215d0", func := "overtone/overtonelaw04.OpsNear", spec := "opsNear", inPlace := ["math.Float64frombits", "math.sqrt", "math.Float64bits"], unfollowed := true, recurses := true, apart := false, narrowed := true }
def OpsNearUptoSaid : Prop := opsNearUptoRow.holds Try.pinned (OpenSpec.upto opsNearSpec)

/-- 'overtonelaw04.OpsRoot', WHERE WHAT IT READS IS OF BULK AT MOST 1048576: true; the input reads as it did. -/
def opsRootUptoRow : OpenClaim := { program := "ytemneeknemijpaa", sum := "7177ae18fba7ed5ebe33392ee749e2919e184de3565f16e2f24b5aec450215d0", func := "overtone/overtonelaw04.OpsRoot", spec := "opsRoot", inPlace := ["math.Float64frombits", "math.sqrt", "math.Float64bits"], unfollowed := true, recurses := true, apart := false, narrowed := true }
def OpsRootUptoSaid : Prop := opsRootUptoRow.holds Try.pinned (OpenSpec.upto opsRootSpec)

/-- 'overtonelaw04.OpsExact', WHERE WHAT IT READS IS OF BULK AT MOST 1048576: true; the input reads as it did. -/
def opsExactUptoRow : OpenClaim := { program := "ytemneeknemijpaa", sum := "7177ae18fba7ed5ebe33392ee749e2919e184de3565f16e2f24b5aec450215d0", func := "overtone/overtonelaw04.OpsExact", spec := "opsExact", inPlace := ["math.Float64frombits", "math.sqrt", "math.Float64bits"], unfollowed := true, recurses := true, apart := false, narrowed := true }
def OpsExactUptoSaid : Prop := opsExactUptoRow.holds Try.pinned (OpenSpec.upto opsExactSpec)

/-- 'overtonelaw04.OpsSum', WHERE WHAT IT READS IS OF BULK AT MOST 1048576: true; the input reads as it did. -/
def opsSumUptoRow : OpenClaim := { program := "ytemneeknemijpaa", sum := "7177ae18fba7ed5ebe33392ee749e2919e184de3565f16e2f24b5aec450215d0", func := "overtone/overtonelaw04.OpsSum", spec := "opsSum", inPlace := ["math.Float64frombits", "math.sqrt", "math.Float64bits"], unfollowed := true, recurses := true, apart := false, narrowed := true }
def OpsSumUptoSaid : Prop := opsSumUptoRow.holds Try.pinned (OpenSpec.upto opsSumSpec)

end Rows
end Go.Proofs.Ytemneeknemijpaa
