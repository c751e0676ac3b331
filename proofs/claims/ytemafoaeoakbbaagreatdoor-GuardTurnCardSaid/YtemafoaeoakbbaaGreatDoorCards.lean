/-
  DERIVED. GIVEN WITH THE SEED: THE CARDS: each row of YtemafoaeoakbbaaGreatDoorRows.lean that lists a variable, with what it lists TIED to the program's text (the seventh form; the later family's looks); each row that meets fmt, with fmt's text TOLD by the authors' own Lean function (tested against real Go, not proved from fmt's source: count such statements apart). THE CARD IS WHAT COUNTS. Prove the row's statement (the work); the ties are given (YtemafoaeoakbbaaGreatDoorTie.lean); close each card by the builder's one call (the guide's Derived/Test/ToyasCard.lean, 'card_holds'). Laid BY PROGRAM, IN A SANDBOX (cutbox-door.mjs). By AI agents, Wed Nov 11 2026. No macro, syntax, notation, axiom, sorry.
-/
import Derived.Test.YtemafoaeoakbbaaGreatDoorRows
import GoSem.ClaimSeven
namespace Go.Proofs.YtemafoaeoakbbaaGreatDoor
namespace Rows

/-- THE TIED CARD OF 'riverbanklaw15.GuardTells'. -/
def guardTellsCard : Claim7 := { stood := { row := guardTellsRow, standIns := [], harness := (true, "1730abd2cf1f303518612690f5f8ce79d115b5eb59b3db9377e6f68a7923c1b8"), looks := false }, kinds := [], alts := [], laidByText := true, laidKinds := [.data], laidTests := true, laidLooks := .later }
def GuardTellsCardSaid : Prop := Claim7.holds Tryz.pinned (.plain (OpenSpec.ofChange guardTellsSpec)) guardTellsCard

/-- THE TIED CARD OF 'riverbanklaw15.GuardMoves'. -/
def guardMovesCard : Claim7 := { stood := { row := guardMovesRow, standIns := [], harness := (true, "1730abd2cf1f303518612690f5f8ce79d115b5eb59b3db9377e6f68a7923c1b8"), looks := false }, kinds := [], alts := [], laidByText := true, laidKinds := [.data], laidTests := true, laidLooks := .later }
def GuardMovesCardSaid : Prop := Claim7.holds Tryz.pinned (.plain (OpenSpec.ofChange guardMovesSpec)) guardMovesCard

/-- THE TIED CARD OF 'riverbanklaw15.GuardAgain'. -/
def guardAgainCard : Claim7 := { stood := { row := guardAgainRow, standIns := [], harness := (true, "1730abd2cf1f303518612690f5f8ce79d115b5eb59b3db9377e6f68a7923c1b8"), looks := false }, kinds := [], alts := [], laidByText := true, laidKinds := [.data], laidTests := true, laidLooks := .later }
def GuardAgainCardSaid : Prop := Claim7.holds Tryz.pinned (.plain (OpenSpec.ofChange guardAgainSpec)) guardAgainCard

/-- THE TIED CARD OF 'riverbanklaw15.GuardTurn'. -/
def guardTurnCard : Claim7 := { stood := { row := guardTurnRow, standIns := [], harness := (true, "1730abd2cf1f303518612690f5f8ce79d115b5eb59b3db9377e6f68a7923c1b8"), looks := false }, kinds := [], alts := [], laidByText := true, laidKinds := [.data], laidTests := true, laidLooks := .later }
def GuardTurnCardSaid : Prop := Claim7.holds Tryz.pinned (.plain (OpenSpec.ofChange guardTurnSpec)) guardTurnCard

/-- THE TIED CARD OF 'riverbanklaw15.GuardTakes'. -/
def guardTakesCard : Claim7 := { stood := { row := guardTakesRow, standIns := [], harness := (true, "1730abd2cf1f303518612690f5f8ce79d115b5eb59b3db9377e6f68a7923c1b8"), looks := false }, kinds := [], alts := [], laidByText := true, laidKinds := [.data], laidTests := true, laidLooks := .later }
def GuardTakesCardSaid : Prop := Claim7.holds Tryz.pinned (.plain (OpenSpec.ofChange guardTakesSpec)) guardTakesCard

/-- THE TIED CARD OF 'riverbanklaw15.GuardOther'. -/
def guardOtherCard : Claim7 := { stood := { row := guardOtherRow, standIns := [], harness := (true, "1730abd2cf1f303518612690f5f8ce79d115b5eb59b3db9377e6f68a7923c1b8"), looks := false }, kinds := [], alts := [], laidByText := true, laidKinds := [.data], laidTests := true, laidLooks := .later }
def GuardOtherCardSaid : Prop := Claim7.holds Tryz.pinned (.plain (OpenSpec.ofChange guardOtherSpec)) guardOtherCard

/-- THE SECOND FORM's CARD OF 'riverbanklaw15.GuardTells'. -/
def guardTellsUptoCard : Claim7 := { stood := { row := guardTellsUptoRow, standIns := [], harness := (true, "1730abd2cf1f303518612690f5f8ce79d115b5eb59b3db9377e6f68a7923c1b8"), looks := false }, kinds := [], alts := [], laidByText := true, laidKinds := [.data], laidTests := true, laidLooks := .later }
def GuardTellsUptoCardSaid : Prop := Claim7.holds Tryz.pinned (.plain (OpenSpec.upto guardTellsSpec)) guardTellsUptoCard

/-- THE SECOND FORM's CARD OF 'riverbanklaw15.GuardMoves'. -/
def guardMovesUptoCard : Claim7 := { stood := { row := guardMovesUptoRow, standIns := [], harness := (true, "1730abd2cf1f303518612690f5f8ce79d115b5eb59b3db9377e6f68a7923c1b8"), looks := false }, kinds := [], alts := [], laidByText := true, laidKinds := [.data], laidTests := true, laidLooks := .later }
def GuardMovesUptoCardSaid : Prop := Claim7.holds Tryz.pinned (.plain (OpenSpec.upto guardMovesSpec)) guardMovesUptoCard

/-- THE SECOND FORM's CARD OF 'riverbanklaw15.GuardAgain'. -/
def guardAgainUptoCard : Claim7 := { stood := { row := guardAgainUptoRow, standIns := [], harness := (true, "1730abd2cf1f303518612690f5f8ce79d115b5eb59b3db9377e6f68a7923c1b8"), looks := false }, kinds := [], alts := [], laidByText := true, laidKinds := [.data], laidTests := true, laidLooks := .later }
def GuardAgainUptoCardSaid : Prop := Claim7.holds Tryz.pinned (.plain (OpenSpec.upto guardAgainSpec)) guardAgainUptoCard

/-- THE SECOND FORM's CARD OF 'riverbanklaw15.GuardTurn'. -/
def guardTurnUptoCard : Claim7 := { stood := { row := guardTurnUptoRow, standIns := [], harness := (true, "1730abd2cf1f303518612690f5f8ce79d115b5eb59b3db9377e6f68a7923c1b8"), looks := false }, kinds := [], alts := [], laidByText := true, laidKinds := [.data], laidTests := true, laidLooks := .later }
def GuardTurnUptoCardSaid : Prop := Claim7.holds Tryz.pinned (.plain (OpenSpec.upto guardTurnSpec)) guardTurnUptoCard

/-- THE SECOND FORM's CARD OF 'riverbanklaw15.GuardTakes'. -/
def guardTakesUptoCard : Claim7 := { stood := { row := guardTakesUptoRow, standIns := [], harness := (true, "1730abd2cf1f303518612690f5f8ce79d115b5eb59b3db9377e6f68a7923c1b8"), looks := false }, kinds := [], alts := [], laidByText := true, laidKinds := [.data], laidTests := true, laidLooks := .later }
def GuardTakesUptoCardSaid : Prop := Claim7.holds Tryz.pinned (.plain (OpenSpec.upto guardTakesSpec)) guardTakesUptoCard

/-- THE SECOND FORM's CARD OF 'riverbanklaw15.GuardOther'. -/
def guardOtherUptoCard : Claim7 := { stood := { row := guardOtherUptoRow, standIns := [], harness := (true, "1730abd2cf1f303518612690f5f8ce79d115b5eb59b3db9377e6f68a7923c1b8"), looks := false }, kinds := [], alts := [], laidByText := true, laidKinds := [.data], laidTests := true, laidLooks := .later }
def GuardOtherUptoCardSaid : Prop := Claim7.holds Tryz.pinned (.plain (OpenSpec.upto guardOtherSpec)) guardOtherUptoCard
end Rows
end Go.Proofs.YtemafoaeoakbbaaGreatDoor
