/-
  No cell of these rows narrows 'for every input' (looked for: loops, veiled, ifaces, maps, wideKeys, modest, calm, conditions, laid).
  DERIVED. THE GIVEN ROWS OF THIS SEAT. 6 by the template 'for every input the law returns true; each argument reads behind the call as it read before'; 0 by the template 'total and deterministic' (their statements: YtajnjghbppcfdaaTotals.lean).
  GIVEN WITH THE SEED: the statements are not yours to turn. If you find one false, say at which input.
  Laid BY PROGRAM, IN A SANDBOX (cutbox-rows.mjs): the forced cells as the released guide's own fill.sh prints them over the translation 55c79029c0bd1c30… (all of the seat's roots in one cut). By AI agents, Wed Nov 11 2026. No macro, syntax, notation, axiom, sorry.
-/
import Derived.Test.YtajnjghbppcfdaaChecked
import GoSem.Claim
import GoSem.ClaimJoined
import GoSem.ClaimMapViews
import Derived.JoinedTies
import Derived.KernelRfl
namespace Go.Proofs.Ytajnjghbppcfdaa
/- THE CELL 'sum', in the pinned program and in every row, IS THE sha256 OF THE DUMP (.gsa) THAT YtajnjghbppcfdaaProg.lean LOADS. Nothing in Lean hashes anything: it is a label: what it is worth is what the hold of that sum in a sandbox is worth. -/
noncomputable def Try.pinned : Pinned := { name := "ytajnjghbppcfdaa", sum := "55c79029c0bd1c30f3aed452a9bac7127db4d2062cd3f220515c77fd45ab512d", checked := Try.checked }
namespace Rows
def none {H : Type} : Left H := { results := [], args := [] }

/-- 'overtonelaw10.PermTells': WHATEVER THE INPUT: true; the input reads as it did. -/
def permTellsSpec : ChangeSpec := { name := "permTells", fn := fun _ => fun
  | [d1, d2, d3, d4] => { results := [.lit (.bool true)], args := [d1, d2, d3, d4] }
  | _ => none }
def permTellsRow : OpenClaim := { program := "ytajnjghbppcfdaa", sum := "55c79029c0bd1c30f3aed452a9bac7127db4d2062cd3f220515c77fd45ab512d", func := "overtone/overtonelaw10.PermTells", spec := "permTells", unfollowed := true, recurses := true, apart := false }
def PermTellsSaid : Prop := permTellsRow.holds Try.pinned (OpenSpec.ofChange permTellsSpec)

/-- ITS FALSE NEIGHBOUR: 'it returns false'. Refute it at one input. -/
def permTellsWrong : ChangeSpec := { name := "permTells", fn := fun _ => fun
  | [d1, d2, d3, d4] => { results := [.lit (.bool false)], args := [d1, d2, d3, d4] }
  | _ => none }
def PermTellsWrongFalsely : Prop := permTellsRow.holds Try.pinned (OpenSpec.ofChange permTellsWrong)

/-- 'overtonelaw10.PermBack': WHATEVER THE INPUT: true; the input reads as it did. -/
def permBackSpec : ChangeSpec := { name := "permBack", fn := fun _ => fun
  | [d] => { results := [.lit (.bool true)], args := [d] }
  | _ => none }
def permBackRow : OpenClaim := { program := "ytajnjghbppcfdaa", sum := "55c79029c0bd1c30f3aed452a9bac7127db4d2062cd3f220515c77fd45ab512d", func := "overtone/overtonelaw10.PermBack", spec := "permBack", unfollowed := true, recurses := true, apart := false }
def PermBackSaid : Prop := permBackRow.holds Try.pinned (OpenSpec.ofChange permBackSpec)

/-- ITS FALSE NEIGHBOUR: 'it returns false'. Refute it at one input. -/
def permBackWrong : ChangeSpec := { name := "permBack", fn := fun _ => fun
  | [d] => { results := [.lit (.bool false)], args := [d] }
  | _ => none }
def PermBackWrongFalsely : Prop := permBackRow.holds Try.pinned (OpenSpec.ofChange permBackWrong)

/-- 'overtonelaw10.PermZip': WHATEVER THE INPUT: true; the input reads as it did. -/
def permZipSpec : ChangeSpec := { name := "permZip", fn := fun _ => fun
  | [d1, d2] => { results := [.lit (.bool true)], args := [d1, d2] }
  | _ => none }
def permZipRow : OpenClaim := { program := "ytajnjghbppcfdaa", sum := "55c79029c0bd1c30f3aed452a9bac7127db4d2062cd3f220515c77fd45ab512d", func := "overtone/overtonelaw10.PermZip", spec := "permZip", unfollowed := true, recurses := true, apart := false }
def PermZipSaid : Prop := permZipRow.holds Try.pinned (OpenSpec.ofChange permZipSpec)

/-- ITS FALSE NEIGHBOUR: 'it returns false'. Refute it at one input. -/
def permZipWrong : ChangeSpec := { name := "permZip", fn := fun _ => fun
  | [d1, d2] => { results := [.lit (.bool false)], args := [d1, d2] }
  | _ => none }
def PermZipWrongFalsely : Prop := permZipRow.holds Try.pinned (OpenSpec.ofChange permZipWrong)

/-- 'overtonelaw10.PermBits': WHATEVER THE INPUT: true; the input reads as it did. -/
def permBitsSpec : ChangeSpec := { name := "permBits", fn := fun _ => fun
  | [d1, d2] => { results := [.lit (.bool true)], args := [d1, d2] }
  | _ => none }
def permBitsRow : OpenClaim := { program := "ytajnjghbppcfdaa", sum := "55c79029c0bd1c30f3aed452a9bac7127db4d2062cd3f220515c77fd45ab512d", func := "overtone/overtonelaw10.PermBits", spec := "permBits", unfollowed := true, recurses := true, apart := false }
def PermBitsSaid : Prop := permBitsRow.holds Try.pinned (OpenSpec.ofChange permBitsSpec)

/-- ITS FALSE NEIGHBOUR: 'it returns false'. Refute it at one input. -/
def permBitsWrong : ChangeSpec := { name := "permBits", fn := fun _ => fun
  | [d1, d2] => { results := [.lit (.bool false)], args := [d1, d2] }
  | _ => none }
def PermBitsWrongFalsely : Prop := permBitsRow.holds Try.pinned (OpenSpec.ofChange permBitsWrong)

/-- 'overtonelaw10.PermAt': WHATEVER THE INPUT: true; the input reads as it did. -/
def permAtSpec : ChangeSpec := { name := "permAt", fn := fun _ => fun
  | [d1, d2, d3] => { results := [.lit (.bool true)], args := [d1, d2, d3] }
  | _ => none }
def permAtRow : OpenClaim := { program := "ytajnjghbppcfdaa", sum := "55c79029c0bd1c30f3aed452a9bac7127db4d2062cd3f220515c77fd45ab512d", func := "overtone/overtonelaw10.PermAt", spec := "permAt", unfollowed := true, recurses := true, apart := false }
def PermAtSaid : Prop := permAtRow.holds Try.pinned (OpenSpec.ofChange permAtSpec)

/-- ITS FALSE NEIGHBOUR: 'it returns false'. Refute it at one input. -/
def permAtWrong : ChangeSpec := { name := "permAt", fn := fun _ => fun
  | [d1, d2, d3] => { results := [.lit (.bool false)], args := [d1, d2, d3] }
  | _ => none }
def PermAtWrongFalsely : Prop := permAtRow.holds Try.pinned (OpenSpec.ofChange permAtWrong)

/-- 'overtonelaw10.PermGiven': WHATEVER THE INPUT: true; the input reads as it did. -/
def permGivenSpec : ChangeSpec := { name := "permGiven", fn := fun _ => fun
  | [d1, d2] => { results := [.lit (.bool true)], args := [d1, d2] }
  | _ => none }
def permGivenRow : OpenClaim := { program := "ytajnjghbppcfdaa", sum := "55c79029c0bd1c30f3aed452a9bac7127db4d2062cd3f220515c77fd45ab512d", func := "overtone/overtonelaw10.PermGiven", spec := "permGiven", unfollowed := true, recurses := true, apart := false }
def PermGivenSaid : Prop := permGivenRow.holds Try.pinned (OpenSpec.ofChange permGivenSpec)

/-- ITS FALSE NEIGHBOUR: 'it returns false'. Refute it at one input. -/
def permGivenWrong : ChangeSpec := { name := "permGiven", fn := fun _ => fun
  | [d1, d2] => { results := [.lit (.bool false)], args := [d1, d2] }
  | _ => none }
def PermGivenWrongFalsely : Prop := permGivenRow.holds Try.pinned (OpenSpec.ofChange permGivenWrong)

/- THE SECOND FORM. 'bulk': how many values and letters a reading holds, each counted each time it is reached (what is shared counts as often as it is met; a slice's spare places count too). A statement '..UptoSaid' is the law's where the arguments, and the package variables that the reading takes, are together of bulk at most 1048576: NARROWER than '..Said'. Prove '..Said' where nothing that the law and all that it calls make is longer than what came in: it says more and counts as full. Else prove '..UptoSaid'. A law counts once. -/
mutual
def uptoBulk {H : Type} : DataW H → Nat
  | .lit (.string bytes) => bytes.length + 1
  | .lit _ => 1
  | .nil => 1
  | .ptr d => uptoBulk d + 1
  | .slice elems spare => uptoBulkAll elems + uptoBulkAll spare + 1
  | .agg parts => uptoBulkAll parts + 1
  | .iface _ d => uptoBulk d + 1
  | .map entries => uptoBulkEntries entries + 1
  | .held _ => 1
def uptoBulkAll {H : Type} : List (DataW H) → Nat
  | [] => 0
  | d :: r => uptoBulk d + uptoBulkAll r
def uptoBulkEntries {H : Type} : List (Lit × DataW H) → Nat
  | [] => 0
  | x :: r => uptoBulkEntry x + uptoBulkEntries r
def uptoBulkEntry {H : Type} : Lit × DataW H → Nat
  | (.string bytes, d) => bytes.length + uptoBulk d + 1
  | (_, d) => uptoBulk d + 1
 end
def uptoSmall : (H : Type) → List (DataW H) → Bool := fun _ ds => decide (uptoBulkAll ds ≤ 1048576)
def OpenSpec.upto (s : _root_.Go.ChangeSpec) : _root_.Go.OpenSpec := { _root_.Go.OpenSpec.ofChange s with cond := some uptoSmall }

/-- 'overtonelaw10.PermTells', WHERE WHAT IT READS IS OF BULK AT MOST 1048576: true; the input reads as it did. -/
def permTellsUptoRow : OpenClaim := { program := "ytajnjghbppcfdaa", sum := "55c79029c0bd1c30f3aed452a9bac7127db4d2062cd3f220515c77fd45ab512d", func := "overtone/overtonelaw10.PermTells", spec := "permTells", unfollowed := true, recurses := true, apart := false, narrowed := true }
def PermTellsUptoSaid : Prop := permTellsUptoRow.holds Try.pinned (OpenSpec.upto permTellsSpec)

/-- 'overtonelaw10.PermBack', WHERE WHAT IT READS IS OF BULK AT MOST 1048576: true; the input reads as it did. -/
def permBackUptoRow : OpenClaim := { program := "ytajnjghbppcfdaa", sum := "55c79029c0bd1c30f3aed452a9bac7127db4d2062cd3f220515c77fd45ab512d", func := "overtone/overtonelaw10.PermBack", spec := "permBack", unfollowed := true, recurses := true, apart := false, narrowed := true }
def PermBackUptoSaid : Prop := permBackUptoRow.holds Try.pinned (OpenSpec.upto permBackSpec)

/-- 'overtonelaw10.PermZip', WHERE WHAT IT READS IS OF BULK AT MOST 1048576: true; the input reads as it did. -/
def permZipUptoRow : OpenClaim := { program := "ytajnjghbppcfdaa", sum := "55c79029c0bd1c30f3aed452a9bac7127db4d2062cd3f220515c77fd45ab512d", func := "overtone/overtonelaw10.PermZip", spec := "permZip", unfollowed := true, recurses := true, apart := false, narrowed := true }
def PermZipUptoSaid : Prop := permZipUptoRow.holds Try.pinned (OpenSpec.upto permZipSpec)

/-- 'overtonelaw10.PermBits', WHERE WHAT IT READS IS OF BULK AT MOST 1048576: true; the input reads as it did. -/
def permBitsUptoRow : OpenClaim := { program := "ytajnjghbppcfdaa", sum := "55c79029c0bd1c30f3aed452a9bac7127db4d2062cd3f220515c77fd45ab512d", func := "overtone/overtonelaw10.PermBits", spec := "permBits", unfollowed := true, recurses := true, apart := false, narrowed := true }
def PermBitsUptoSaid : Prop := permBitsUptoRow.holds Try.pinned (OpenSpec.upto permBitsSpec)

/-- 'overtonelaw10.PermAt', WHERE WHAT IT READS IS OF BULK AT MOST 1048576: true; the input reads as it did. -/
def permAtUptoRow : OpenClaim := { program := "ytajnjghbppcfdaa", sum := "55c79029c0bd1c30f3aed452a9bac7127db4d2062cd3f220515c77fd45ab512d", func := "overtone/overtonelaw10.PermAt", spec := "permAt", unfollowed := true, recurses := true, apart := false, narrowed := true }
def PermAtUptoSaid : Prop := permAtUptoRow.holds Try.pinned (OpenSpec.upto permAtSpec)

/-- 'overtonelaw10.PermGiven', WHERE WHAT IT READS IS OF BULK AT MOST 1048576: true; the input reads as it did. -/
def permGivenUptoRow : OpenClaim := { program := "ytajnjghbppcfdaa", sum := "55c79029c0bd1c30f3aed452a9bac7127db4d2062cd3f220515c77fd45ab512d", func := "overtone/overtonelaw10.PermGiven", spec := "permGiven", unfollowed := true, recurses := true, apart := false, narrowed := true }
def PermGivenUptoSaid : Prop := permGivenUptoRow.holds Try.pinned (OpenSpec.upto permGivenSpec)

end Rows
end Go.Proofs.Ytajnjghbppcfdaa
