/-
  DERIVED. GIVEN WITH THE SEED: THE CARDS: each row of YtfjbjjeekhcboaaGreatDoorRows.lean that lists a variable, with what it lists TIED to the program's text (the seventh form; the later family's looks); each row that meets fmt, with fmt's text TOLD by the authors' own Lean function (tested against real Go, not proved from fmt's source: count such statements apart). THE CARD IS WHAT COUNTS. Prove the row's statement (the work); the ties are given (YtfjbjjeekhcboaaGreatDoorTie.lean); close each card by the builder's one call (the guide's Derived/Test/ToyasCard.lean, 'card_holds'). Laid BY PROGRAM, IN A SANDBOX (cutbox-door.mjs). By AI agents, Wed Nov 11 2026. No macro, syntax, notation, axiom, sorry.
-/
import Derived.Test.YtfjbjjeekhcboaaGreatDoorRows
import GoSem.ClaimSeven
namespace Go.Proofs.YtfjbjjeekhcboaaGreatDoor
namespace Rows

/-- THE TIED CARD OF 'riverbanklaw04.FenReads'. -/
def fenReadsCard : Claim7 := { stood := { row := fenReadsRow, standIns := [], harness := (true, "93da2e421e09ecd817a93323d9a057fa580b653e98d26dc2257bf4fd2c1588c2"), looks := true }, kinds := [], alts := [], laidByText := true, laidKinds := [.data, .data, .data, .data, .handle, .sentinel, .sentinel, .pinned], laidTests := true, laidLooks := .later }
def FenReadsCardSaid : Prop := Claim7.holds Tryz.pinned (.plain (OpenSpec.ofChange fenReadsSpec)) fenReadsCard

/-- THE TIED CARD OF 'riverbanklaw04.FenWrites'. -/
def fenWritesCard : Claim7 := { stood := { row := fenWritesRow, standIns := [], harness := (true, "93da2e421e09ecd817a93323d9a057fa580b653e98d26dc2257bf4fd2c1588c2"), looks := true }, kinds := [], alts := [], laidByText := true, laidKinds := [.data, .data, .data, .data, .handle, .sentinel, .sentinel, .pinned], laidTests := true, laidLooks := .later }
def FenWritesCardSaid : Prop := Claim7.holds Tryz.pinned (.plain (OpenSpec.ofChange fenWritesSpec)) fenWritesCard

/-- THE TIED CARD OF 'riverbanklaw04.FenBack'. -/
def fenBackCard : Claim7 := { stood := { row := fenBackRow, standIns := [], harness := (true, "93da2e421e09ecd817a93323d9a057fa580b653e98d26dc2257bf4fd2c1588c2"), looks := true }, kinds := [], alts := [], laidByText := true, laidKinds := [.data, .data, .data, .data, .handle, .sentinel, .sentinel, .pinned], laidTests := true, laidLooks := .later }
def FenBackCardSaid : Prop := Claim7.holds Tryz.pinned (.plain (OpenSpec.ofChange fenBackSpec)) fenBackCard

/-- THE TIED CARD OF 'riverbanklaw04.FenAgain'. -/
def fenAgainCard : Claim7 := { stood := { row := fenAgainRow, standIns := [], harness := (true, "93da2e421e09ecd817a93323d9a057fa580b653e98d26dc2257bf4fd2c1588c2"), looks := true }, kinds := [], alts := [], laidByText := true, laidKinds := [.data, .data, .data, .data, .handle, .sentinel, .sentinel, .pinned], laidTests := true, laidLooks := .later }
def FenAgainCardSaid : Prop := Claim7.holds Tryz.pinned (.plain (OpenSpec.ofChange fenAgainSpec)) fenAgainCard

/-- THE TIED CARD OF 'riverbanklaw04.FenSides'. -/
def fenSidesCard : Claim7 := { stood := { row := fenSidesRow, standIns := [], harness := (true, "93da2e421e09ecd817a93323d9a057fa580b653e98d26dc2257bf4fd2c1588c2"), looks := true }, kinds := [], alts := [], laidByText := true, laidKinds := [.data, .data, .data, .data, .handle, .sentinel, .sentinel, .pinned], laidTests := true, laidLooks := .later }
def FenSidesCardSaid : Prop := Claim7.holds Tryz.pinned (.plain (OpenSpec.ofChange fenSidesSpec)) fenSidesCard

/-- THE TIED CARD OF 'riverbanklaw04.FenRanks'. -/
def fenRanksCard : Claim7 := { stood := { row := fenRanksRow, standIns := [], harness := (true, "93da2e421e09ecd817a93323d9a057fa580b653e98d26dc2257bf4fd2c1588c2"), looks := true }, kinds := [], alts := [], laidByText := true, laidKinds := [.data, .data, .data, .data, .handle, .sentinel, .sentinel, .pinned], laidTests := true, laidLooks := .later }
def FenRanksCardSaid : Prop := Claim7.holds Tryz.pinned (.plain (OpenSpec.ofChange fenRanksSpec)) fenRanksCard

/-- THE TIED CARD OF 'riverbanklaw04.FenApart'. -/
def fenApartCard : Claim7 := { stood := { row := fenApartRow, standIns := [], harness := (true, "93da2e421e09ecd817a93323d9a057fa580b653e98d26dc2257bf4fd2c1588c2"), looks := true }, kinds := [], alts := [], laidByText := true, laidKinds := [.data, .data, .data, .data, .handle, .sentinel, .sentinel, .pinned], laidTests := true, laidLooks := .later }
def FenApartCardSaid : Prop := Claim7.holds Tryz.pinned (.plain (OpenSpec.ofChange fenApartSpec)) fenApartCard

/-- THE SECOND FORM's CARD OF 'riverbanklaw04.FenReads'. -/
def fenReadsUptoCard : Claim7 := { stood := { row := fenReadsUptoRow, standIns := [], harness := (true, "93da2e421e09ecd817a93323d9a057fa580b653e98d26dc2257bf4fd2c1588c2"), looks := true }, kinds := [], alts := [], laidByText := true, laidKinds := [.data, .data, .data, .data, .handle, .sentinel, .sentinel, .pinned], laidTests := true, laidLooks := .later }
def FenReadsUptoCardSaid : Prop := Claim7.holds Tryz.pinned (.plain (OpenSpec.upto fenReadsSpec)) fenReadsUptoCard

/-- THE SECOND FORM's CARD OF 'riverbanklaw04.FenWrites'. -/
def fenWritesUptoCard : Claim7 := { stood := { row := fenWritesUptoRow, standIns := [], harness := (true, "93da2e421e09ecd817a93323d9a057fa580b653e98d26dc2257bf4fd2c1588c2"), looks := true }, kinds := [], alts := [], laidByText := true, laidKinds := [.data, .data, .data, .data, .handle, .sentinel, .sentinel, .pinned], laidTests := true, laidLooks := .later }
def FenWritesUptoCardSaid : Prop := Claim7.holds Tryz.pinned (.plain (OpenSpec.upto fenWritesSpec)) fenWritesUptoCard

/-- THE SECOND FORM's CARD OF 'riverbanklaw04.FenBack'. -/
def fenBackUptoCard : Claim7 := { stood := { row := fenBackUptoRow, standIns := [], harness := (true, "93da2e421e09ecd817a93323d9a057fa580b653e98d26dc2257bf4fd2c1588c2"), looks := true }, kinds := [], alts := [], laidByText := true, laidKinds := [.data, .data, .data, .data, .handle, .sentinel, .sentinel, .pinned], laidTests := true, laidLooks := .later }
def FenBackUptoCardSaid : Prop := Claim7.holds Tryz.pinned (.plain (OpenSpec.upto fenBackSpec)) fenBackUptoCard

/-- THE SECOND FORM's CARD OF 'riverbanklaw04.FenAgain'. -/
def fenAgainUptoCard : Claim7 := { stood := { row := fenAgainUptoRow, standIns := [], harness := (true, "93da2e421e09ecd817a93323d9a057fa580b653e98d26dc2257bf4fd2c1588c2"), looks := true }, kinds := [], alts := [], laidByText := true, laidKinds := [.data, .data, .data, .data, .handle, .sentinel, .sentinel, .pinned], laidTests := true, laidLooks := .later }
def FenAgainUptoCardSaid : Prop := Claim7.holds Tryz.pinned (.plain (OpenSpec.upto fenAgainSpec)) fenAgainUptoCard

/-- THE SECOND FORM's CARD OF 'riverbanklaw04.FenSides'. -/
def fenSidesUptoCard : Claim7 := { stood := { row := fenSidesUptoRow, standIns := [], harness := (true, "93da2e421e09ecd817a93323d9a057fa580b653e98d26dc2257bf4fd2c1588c2"), looks := true }, kinds := [], alts := [], laidByText := true, laidKinds := [.data, .data, .data, .data, .handle, .sentinel, .sentinel, .pinned], laidTests := true, laidLooks := .later }
def FenSidesUptoCardSaid : Prop := Claim7.holds Tryz.pinned (.plain (OpenSpec.upto fenSidesSpec)) fenSidesUptoCard

/-- THE SECOND FORM's CARD OF 'riverbanklaw04.FenRanks'. -/
def fenRanksUptoCard : Claim7 := { stood := { row := fenRanksUptoRow, standIns := [], harness := (true, "93da2e421e09ecd817a93323d9a057fa580b653e98d26dc2257bf4fd2c1588c2"), looks := true }, kinds := [], alts := [], laidByText := true, laidKinds := [.data, .data, .data, .data, .handle, .sentinel, .sentinel, .pinned], laidTests := true, laidLooks := .later }
def FenRanksUptoCardSaid : Prop := Claim7.holds Tryz.pinned (.plain (OpenSpec.upto fenRanksSpec)) fenRanksUptoCard

/-- THE SECOND FORM's CARD OF 'riverbanklaw04.FenApart'. -/
def fenApartUptoCard : Claim7 := { stood := { row := fenApartUptoRow, standIns := [], harness := (true, "93da2e421e09ecd817a93323d9a057fa580b653e98d26dc2257bf4fd2c1588c2"), looks := true }, kinds := [], alts := [], laidByText := true, laidKinds := [.data, .data, .data, .data, .handle, .sentinel, .sentinel, .pinned], laidTests := true, laidLooks := .later }
def FenApartUptoCardSaid : Prop := Claim7.holds Tryz.pinned (.plain (OpenSpec.upto fenApartSpec)) fenApartUptoCard
end Rows
end Go.Proofs.YtfjbjjeekhcboaaGreatDoor
