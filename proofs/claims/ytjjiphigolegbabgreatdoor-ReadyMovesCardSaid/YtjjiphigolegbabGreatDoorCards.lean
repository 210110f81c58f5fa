/-
  DERIVED. GIVEN WITH THE SEED: THE CARDS: each row of YtjjiphigolegbabGreatDoorRows.lean that lists a variable, with what it lists TIED to the program's text (the seventh form; the later family's looks); each row that meets fmt, with fmt's text TOLD by the authors' own Lean function (tested against real Go, not proved from fmt's source: count such statements apart). THE CARD IS WHAT COUNTS. Prove the row's statement (the work); the ties are given (YtjjiphigolegbabGreatDoorTie.lean); close each card by the builder's one call (the guide's Derived/Test/ToyasCard.lean, 'card_holds'). Laid BY PROGRAM, IN A SANDBOX (cutbox-door.mjs). By AI agents, Wed Nov 11 2026. No macro, syntax, notation, axiom, sorry.
-/
import Derived.Test.YtjjiphigolegbabGreatDoorRows
import GoSem.ClaimSeven
namespace Go.Proofs.YtjjiphigolegbabGreatDoor
namespace Rows

/-- THE TIED CARD OF 'ferrylaw09.ReadyMoves'. -/
def readyMovesCard : Claim7 := { stood := { row := readyMovesRow, standIns := [], harness := (true, "0474f304735dd34a04b51dfd36a0d272ee9390de6d6f68bfdb858d39a7d5c8e9"), looks := true }, kinds := [], alts := [], laidByText := true, laidKinds := [.handle, .sentinel, .sentinel, .sentinel, .sentinel, .sentinel, .sentinel, .sentinel, .sentinel, .sentinel, .sentinel, .sentinel, .sentinel, .sentinel, .sentinel, .sentinel, .sentinel, .sentinel, .sentinel, .sentinel, .sentinel], laidTests := true, laidLooks := .later }
def ReadyMovesCardSaid : Prop := Claim7.holds Tryz.pinned (.plain (OpenSpec.ofChange readyMovesSpec)) readyMovesCard

/-- THE TIED CARD OF 'ferrylaw09.ReadyHolds'. -/
def readyHoldsCard : Claim7 := { stood := { row := readyHoldsRow, standIns := [], harness := (true, "0474f304735dd34a04b51dfd36a0d272ee9390de6d6f68bfdb858d39a7d5c8e9"), looks := true }, kinds := [], alts := [], laidByText := true, laidKinds := [.handle, .sentinel, .sentinel, .sentinel, .sentinel, .sentinel, .sentinel, .sentinel, .sentinel, .sentinel, .sentinel, .sentinel, .sentinel, .sentinel, .sentinel, .sentinel, .sentinel, .sentinel, .sentinel, .sentinel, .sentinel], laidTests := true, laidLooks := .later }
def ReadyHoldsCardSaid : Prop := Claim7.holds Tryz.pinned (.plain (OpenSpec.ofChange readyHoldsSpec)) readyHoldsCard

/-- THE SECOND FORM's CARD OF 'ferrylaw09.ReadyMoves'. -/
def readyMovesUptoCard : Claim7 := { stood := { row := readyMovesUptoRow, standIns := [], harness := (true, "0474f304735dd34a04b51dfd36a0d272ee9390de6d6f68bfdb858d39a7d5c8e9"), looks := true }, kinds := [], alts := [], laidByText := true, laidKinds := [.handle, .sentinel, .sentinel, .sentinel, .sentinel, .sentinel, .sentinel, .sentinel, .sentinel, .sentinel, .sentinel, .sentinel, .sentinel, .sentinel, .sentinel, .sentinel, .sentinel, .sentinel, .sentinel, .sentinel, .sentinel], laidTests := true, laidLooks := .later }
def ReadyMovesUptoCardSaid : Prop := Claim7.holds Tryz.pinned (.plain (OpenSpec.upto readyMovesSpec)) readyMovesUptoCard

/-- THE SECOND FORM's CARD OF 'ferrylaw09.ReadyHolds'. -/
def readyHoldsUptoCard : Claim7 := { stood := { row := readyHoldsUptoRow, standIns := [], harness := (true, "0474f304735dd34a04b51dfd36a0d272ee9390de6d6f68bfdb858d39a7d5c8e9"), looks := true }, kinds := [], alts := [], laidByText := true, laidKinds := [.handle, .sentinel, .sentinel, .sentinel, .sentinel, .sentinel, .sentinel, .sentinel, .sentinel, .sentinel, .sentinel, .sentinel, .sentinel, .sentinel, .sentinel, .sentinel, .sentinel, .sentinel, .sentinel, .sentinel, .sentinel], laidTests := true, laidLooks := .later }
def ReadyHoldsUptoCardSaid : Prop := Claim7.holds Tryz.pinned (.plain (OpenSpec.upto readyHoldsSpec)) readyHoldsUptoCard
end Rows
end Go.Proofs.YtjjiphigolegbabGreatDoor
