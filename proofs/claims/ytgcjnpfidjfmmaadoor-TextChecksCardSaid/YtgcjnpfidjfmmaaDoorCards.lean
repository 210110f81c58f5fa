/-
  DERIVED. GIVEN WITH THE SEED: THE CARDS: each row of YtgcjnpfidjfmmaaDoorRows.lean that lists a variable, with what it lists TIED to the program's text (the seventh form; the later family's looks); each row that meets fmt, with fmt's text TOLD by the authors' own Lean function (tested against real Go, not proved from fmt's source: count such statements apart). THE CARD IS WHAT COUNTS. Prove the row's statement (the work); the ties are given (YtgcjnpfidjfmmaaDoorTie.lean); close each card by the builder's one call (the guide's Derived/Test/ToyasCard.lean, 'card_holds'). Laid BY PROGRAM, IN A SANDBOX (cutbox-door.mjs). By AI agents, Wed Nov 11 2026. No macro, syntax, notation, axiom, sorry.
-/
import Derived.Test.YtgcjnpfidjfmmaaDoorRows
import GoSem.ClaimSeven
namespace Go.Proofs.YtgcjnpfidjfmmaaDoor
namespace Rows

/-- THE TIED CARD OF 'ferrylaw25.TextChecks'. -/
def textChecksCard : Claim7 := { stood := { row := textChecksRow, standIns := [], harness := (true, "a12e5fbe74f4ec3bfe55bc45c3c03786a59b628a3b6a91ca70a4fc449a30ad8d"), looks := true }, kinds := [], alts := [], laidByText := true, laidKinds := [.data, .data, .data, .handle, .sentinel, .sentinel, .sentinel, .sentinel, .sentinel, .sentinel, .sentinel, .sentinel, .sentinel, .sentinel, .sentinel, .sentinel, .sentinel, .sentinel, .sentinel, .sentinel, .sentinel, .sentinel, .sentinel, .sentinel], laidTests := true, laidLooks := .later }
def TextChecksCardSaid : Prop := Claim7.holds Tryd.pinned (.plain (OpenSpec.ofChange textChecksSpec)) textChecksCard

/-- THE TIED CARD OF 'ferrylaw25.TextPrints'. -/
def textPrintsCard : Claim7 := { stood := { row := textPrintsRow, standIns := [], harness := (true, "a12e5fbe74f4ec3bfe55bc45c3c03786a59b628a3b6a91ca70a4fc449a30ad8d"), looks := true }, kinds := [], alts := [], laidByText := true, laidKinds := [.data, .data, .data, .handle, .sentinel, .sentinel, .sentinel, .sentinel, .sentinel, .sentinel, .sentinel, .sentinel, .sentinel, .sentinel, .sentinel, .sentinel, .sentinel, .sentinel, .sentinel, .sentinel, .sentinel, .sentinel, .sentinel, .sentinel], laidTests := true, laidLooks := .later }
def TextPrintsCardSaid : Prop := Claim7.holds Tryd.pinned (.plain (OpenSpec.ofChange textPrintsSpec)) textPrintsCard

/-- THE SECOND FORM's CARD OF 'ferrylaw25.TextChecks'. -/
def textChecksUptoCard : Claim7 := { stood := { row := textChecksUptoRow, standIns := [], harness := (true, "a12e5fbe74f4ec3bfe55bc45c3c03786a59b628a3b6a91ca70a4fc449a30ad8d"), looks := true }, kinds := [], alts := [], laidByText := true, laidKinds := [.data, .data, .data, .handle, .sentinel, .sentinel, .sentinel, .sentinel, .sentinel, .sentinel, .sentinel, .sentinel, .sentinel, .sentinel, .sentinel, .sentinel, .sentinel, .sentinel, .sentinel, .sentinel, .sentinel, .sentinel, .sentinel, .sentinel], laidTests := true, laidLooks := .later }
def TextChecksUptoCardSaid : Prop := Claim7.holds Tryd.pinned (.plain (OpenSpec.upto textChecksSpec)) textChecksUptoCard

/-- THE SECOND FORM's CARD OF 'ferrylaw25.TextPrints'. -/
def textPrintsUptoCard : Claim7 := { stood := { row := textPrintsUptoRow, standIns := [], harness := (true, "a12e5fbe74f4ec3bfe55bc45c3c03786a59b628a3b6a91ca70a4fc449a30ad8d"), looks := true }, kinds := [], alts := [], laidByText := true, laidKinds := [.data, .data, .data, .handle, .sentinel, .sentinel, .sentinel, .sentinel, .sentinel, .sentinel, .sentinel, .sentinel, .sentinel, .sentinel, .sentinel, .sentinel, .sentinel, .sentinel, .sentinel, .sentinel, .sentinel, .sentinel, .sentinel, .sentinel], laidTests := true, laidLooks := .later }
def TextPrintsUptoCardSaid : Prop := Claim7.holds Tryd.pinned (.plain (OpenSpec.upto textPrintsSpec)) textPrintsUptoCard
end Rows
end Go.Proofs.YtgcjnpfidjfmmaaDoor
