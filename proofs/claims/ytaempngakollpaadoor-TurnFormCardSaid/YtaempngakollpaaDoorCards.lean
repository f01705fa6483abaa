/-
  DERIVED. GIVEN WITH THE SEED: THE CARDS: each row of YtaempngakollpaaDoorRows.lean that lists a variable, with what it lists TIED to the program's text (the seventh form; the later family's looks); each row that meets fmt, with fmt's text TOLD by the authors' own Lean function (tested against real Go, not proved from fmt's source: count such statements apart). THE CARD IS WHAT COUNTS. Prove the row's statement (the work); the ties are given (YtaempngakollpaaDoorTie.lean); close each card by the builder's one call (the guide's Derived/Test/ToyasCard.lean, 'card_holds'). Laid BY PROGRAM, IN A SANDBOX (cutbox-door.mjs). By AI agents, Wed Nov 11 2026. No macro, syntax, notation, axiom, sorry.
-/
import Derived.Test.YtaempngakollpaaDoorRows
import GoSem.ClaimSeven
namespace Go.Proofs.YtaempngakollpaaDoor
namespace Rows

/-- THE TIED CARD OF 'overtonelaw06.TurnTells'. -/
def turnTellsCard : Claim7 := { stood := { row := turnTellsRow, standIns := [], harness := (true, "a7d9b23d484000a542c5eff34a0bae0ac0153fec72894540eec2248d6567aace"), looks := false }, kinds := [], alts := [], laidByText := true, laidKinds := [.data, .data], laidTests := true, laidLooks := .later }
def TurnTellsCardSaid : Prop := Claim7.holds Tryd.pinned (.plain (OpenSpec.ofChange turnTellsSpec)) turnTellsCard

/-- THE TIED CARD OF 'overtonelaw06.TurnForm'. -/
def turnFormCard : Claim7 := { stood := { row := turnFormRow, standIns := [], harness := (true, "a7d9b23d484000a542c5eff34a0bae0ac0153fec72894540eec2248d6567aace"), looks := false }, kinds := [], alts := [], laidByText := true, laidKinds := [.data, .data], laidTests := true, laidLooks := .later }
def TurnFormCardSaid : Prop := Claim7.holds Tryd.pinned (.plain (OpenSpec.ofChange turnFormSpec)) turnFormCard

/-- THE TIED CARD OF 'overtonelaw06.TurnAdd'. -/
def turnAddCard : Claim7 := { stood := { row := turnAddRow, standIns := [], harness := (true, "a7d9b23d484000a542c5eff34a0bae0ac0153fec72894540eec2248d6567aace"), looks := false }, kinds := [], alts := [], laidByText := true, laidKinds := [.data, .data], laidTests := true, laidLooks := .later }
def TurnAddCardSaid : Prop := Claim7.holds Tryd.pinned (.plain (OpenSpec.ofChange turnAddSpec)) turnAddCard

/-- THE TIED CARD OF 'overtonelaw06.TurnSplit'. -/
def turnSplitCard : Claim7 := { stood := { row := turnSplitRow, standIns := [], harness := (true, "a7d9b23d484000a542c5eff34a0bae0ac0153fec72894540eec2248d6567aace"), looks := false }, kinds := [], alts := [], laidByText := true, laidKinds := [.data, .data], laidTests := true, laidLooks := .later }
def TurnSplitCardSaid : Prop := Claim7.holds Tryd.pinned (.plain (OpenSpec.ofChange turnSplitSpec)) turnSplitCard

/-- THE TIED CARD OF 'overtonelaw06.TurnWhole'. -/
def turnWholeCard : Claim7 := { stood := { row := turnWholeRow, standIns := [], harness := (true, "a7d9b23d484000a542c5eff34a0bae0ac0153fec72894540eec2248d6567aace"), looks := false }, kinds := [], alts := [], laidByText := true, laidKinds := [.data, .data], laidTests := true, laidLooks := .later }
def TurnWholeCardSaid : Prop := Claim7.holds Tryd.pinned (.plain (OpenSpec.ofChange turnWholeSpec)) turnWholeCard

/-- THE TIED CARD OF 'overtonelaw06.TurnPlace'. -/
def turnPlaceCard : Claim7 := { stood := { row := turnPlaceRow, standIns := [], harness := (true, "a7d9b23d484000a542c5eff34a0bae0ac0153fec72894540eec2248d6567aace"), looks := false }, kinds := [], alts := [], laidByText := true, laidKinds := [.data, .data], laidTests := true, laidLooks := .later }
def TurnPlaceCardSaid : Prop := Claim7.holds Tryd.pinned (.plain (OpenSpec.ofChange turnPlaceSpec)) turnPlaceCard

/-- THE SECOND FORM's CARD OF 'overtonelaw06.TurnTells'. -/
def turnTellsUptoCard : Claim7 := { stood := { row := turnTellsUptoRow, standIns := [], harness := (true, "a7d9b23d484000a542c5eff34a0bae0ac0153fec72894540eec2248d6567aace"), looks := false }, kinds := [], alts := [], laidByText := true, laidKinds := [.data, .data], laidTests := true, laidLooks := .later }
def TurnTellsUptoCardSaid : Prop := Claim7.holds Tryd.pinned (.plain (OpenSpec.upto turnTellsSpec)) turnTellsUptoCard

/-- THE SECOND FORM's CARD OF 'overtonelaw06.TurnForm'. -/
def turnFormUptoCard : Claim7 := { stood := { row := turnFormUptoRow, standIns := [], harness := (true, "a7d9b23d484000a542c5eff34a0bae0ac0153fec72894540eec2248d6567aace"), looks := false }, kinds := [], alts := [], laidByText := true, laidKinds := [.data, .data], laidTests := true, laidLooks := .later }
def TurnFormUptoCardSaid : Prop := Claim7.holds Tryd.pinned (.plain (OpenSpec.upto turnFormSpec)) turnFormUptoCard

/-- THE SECOND FORM's CARD OF 'overtonelaw06.TurnAdd'. -/
def turnAddUptoCard : Claim7 := { stood := { row := turnAddUptoRow, standIns := [], harness := (true, "a7d9b23d484000a542c5eff34a0bae0ac0153fec72894540eec2248d6567aace"), looks := false }, kinds := [], alts := [], laidByText := true, laidKinds := [.data, .data], laidTests := true, laidLooks := .later }
def TurnAddUptoCardSaid : Prop := Claim7.holds Tryd.pinned (.plain (OpenSpec.upto turnAddSpec)) turnAddUptoCard

/-- THE SECOND FORM's CARD OF 'overtonelaw06.TurnSplit'. -/
def turnSplitUptoCard : Claim7 := { stood := { row := turnSplitUptoRow, standIns := [], harness := (true, "a7d9b23d484000a542c5eff34a0bae0ac0153fec72894540eec2248d6567aace"), looks := false }, kinds := [], alts := [], laidByText := true, laidKinds := [.data, .data], laidTests := true, laidLooks := .later }
def TurnSplitUptoCardSaid : Prop := Claim7.holds Tryd.pinned (.plain (OpenSpec.upto turnSplitSpec)) turnSplitUptoCard

/-- THE SECOND FORM's CARD OF 'overtonelaw06.TurnWhole'. -/
def turnWholeUptoCard : Claim7 := { stood := { row := turnWholeUptoRow, standIns := [], harness := (true, "a7d9b23d484000a542c5eff34a0bae0ac0153fec72894540eec2248d6567aace"), looks := false }, kinds := [], alts := [], laidByText := true, laidKinds := [.data, .data], laidTests := true, laidLooks := .later }
def TurnWholeUptoCardSaid : Prop := Claim7.holds Tryd.pinned (.plain (OpenSpec.upto turnWholeSpec)) turnWholeUptoCard

/-- THE SECOND FORM's CARD OF 'overtonelaw06.TurnPlace'. -/
def turnPlaceUptoCard : Claim7 := { stood := { row := turnPlaceUptoRow, standIns := [], harness := (true, "a7d9b23d484000a542c5eff34a0bae0ac0153fec72894540eec2248d6567aace"), looks := false }, kinds := [], alts := [], laidByText := true, laidKinds := [.data, .data], laidTests := true, laidLooks := .later }
def TurnPlaceUptoCardSaid : Prop := Claim7.holds Tryd.pinned (.plain (OpenSpec.upto turnPlaceSpec)) turnPlaceUptoCard
end Rows
end Go.Proofs.YtaempngakollpaaDoor
