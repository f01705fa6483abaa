/-
  DERIVED. GIVEN WITH THE SEED: THE CARDS: each row of YtdflbipaicpdcaaGreatDoorRows.lean that lists a variable, with what it lists TIED to the program's text (the seventh form; the later family's looks); each row that meets fmt, with fmt's text TOLD by the authors' own Lean function (tested against real Go, not proved from fmt's source: count such statements apart). THE CARD IS WHAT COUNTS. Prove the row's statement (the work); the ties are given (YtdflbipaicpdcaaGreatDoorTie.lean); close each card by the builder's one call (the guide's Derived/Test/ToyasCard.lean, 'card_holds'). Laid BY PROGRAM, IN A SANDBOX (cutbox-door.mjs). By AI agents, Wed Nov 11 2026. No macro, syntax, notation, axiom, sorry.
-/
import Derived.Test.YtdflbipaicpdcaaGreatDoorRows
import GoSem.ClaimSeven
namespace Go.Proofs.YtdflbipaicpdcaaGreatDoor
namespace Rows

/-- THE TIED CARD OF 'overtonetop.TopPairs'. -/
def topPairsCard : Claim7 := { stood := { row := topPairsRow, standIns := [], harness := (true, "dafb051d45122ee69027b77457cd0f3b69f94c8db6fc9d313ff1c6773401770a"), looks := true }, kinds := [], alts := [], laidByText := true, laidKinds := [.data, .data, .handle], laidTests := true, laidLooks := .later }
def TopPairsCardSaid : Prop := Claim7.holds Tryz.pinned (.plain (OpenSpec.ofChange topPairsSpec)) topPairsCard

/-- THE TIED CARD OF 'overtonetop.TopSize'. -/
def topSizeCard : Claim7 := { stood := { row := topSizeRow, standIns := [], harness := (true, "dafb051d45122ee69027b77457cd0f3b69f94c8db6fc9d313ff1c6773401770a"), looks := true }, kinds := [], alts := [], laidByText := true, laidKinds := [.data, .data, .handle], laidTests := true, laidLooks := .later }
def TopSizeCardSaid : Prop := Claim7.holds Tryz.pinned (.plain (OpenSpec.ofChange topSizeSpec)) topSizeCard

/-- THE SECOND FORM's CARD OF 'overtonetop.TopPairs'. -/
def topPairsUptoCard : Claim7 := { stood := { row := topPairsUptoRow, standIns := [], harness := (true, "dafb051d45122ee69027b77457cd0f3b69f94c8db6fc9d313ff1c6773401770a"), looks := true }, kinds := [], alts := [], laidByText := true, laidKinds := [.data, .data, .handle], laidTests := true, laidLooks := .later }
def TopPairsUptoCardSaid : Prop := Claim7.holds Tryz.pinned (.plain (OpenSpec.upto topPairsSpec)) topPairsUptoCard

/-- THE SECOND FORM's CARD OF 'overtonetop.TopSize'. -/
def topSizeUptoCard : Claim7 := { stood := { row := topSizeUptoRow, standIns := [], harness := (true, "dafb051d45122ee69027b77457cd0f3b69f94c8db6fc9d313ff1c6773401770a"), looks := true }, kinds := [], alts := [], laidByText := true, laidKinds := [.data, .data, .handle], laidTests := true, laidLooks := .later }
def TopSizeUptoCardSaid : Prop := Claim7.holds Tryz.pinned (.plain (OpenSpec.upto topSizeSpec)) topSizeUptoCard
end Rows
end Go.Proofs.YtdflbipaicpdcaaGreatDoor
