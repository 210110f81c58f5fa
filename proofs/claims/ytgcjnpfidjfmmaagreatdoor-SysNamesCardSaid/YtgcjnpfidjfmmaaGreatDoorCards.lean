/-
  DERIVED. GIVEN WITH THE SEED: THE CARDS: each row of YtgcjnpfidjfmmaaGreatDoorRows.lean that lists a variable, with what it lists TIED to the program's text (the seventh form; the later family's looks); each row that meets fmt, with fmt's text TOLD by the authors' own Lean function (tested against real Go, not proved from fmt's source: count such statements apart). THE CARD IS WHAT COUNTS. Prove the row's statement (the work); the ties are given (YtgcjnpfidjfmmaaGreatDoorTie.lean); close each card by the builder's one call (the guide's Derived/Test/ToyasCard.lean, 'card_holds'). Laid BY PROGRAM, IN A SANDBOX (cutbox-door.mjs). By AI agents, Wed Nov 11 2026. No macro, syntax, notation, axiom, sorry.
-/
import Derived.Test.YtgcjnpfidjfmmaaGreatDoorRows
import GoSem.ClaimSeven
namespace Go.Proofs.YtgcjnpfidjfmmaaGreatDoor
namespace Rows

/-- THE TIED CARD OF 'ferrylaw12.SysNames'. -/
def sysNamesCard : Claim7 := { stood := { row := sysNamesRow, standIns := [], harness := (true, "7432b72fd673eb4ff07aecb78ec6dcb08c73d17d338bd55b6989bf9cadd8f49b"), looks := false }, kinds := [], alts := [], laidByText := true, laidKinds := [.sentinel, .sentinel, .sentinel, .sentinel, .sentinel, .sentinel, .sentinel, .sentinel], laidTests := true, laidLooks := .later }
def SysNamesCardSaid : Prop := Claim7.holds Tryz.pinned (.plain (OpenSpec.ofChange sysNamesSpec)) sysNamesCard

/-- THE SECOND FORM's CARD OF 'ferrylaw12.SysNames'. -/
def sysNamesUptoCard : Claim7 := { stood := { row := sysNamesUptoRow, standIns := [], harness := (true, "7432b72fd673eb4ff07aecb78ec6dcb08c73d17d338bd55b6989bf9cadd8f49b"), looks := false }, kinds := [], alts := [], laidByText := true, laidKinds := [.sentinel, .sentinel, .sentinel, .sentinel, .sentinel, .sentinel, .sentinel, .sentinel], laidTests := true, laidLooks := .later }
def SysNamesUptoCardSaid : Prop := Claim7.holds Tryz.pinned (.plain (OpenSpec.upto sysNamesSpec)) sysNamesUptoCard
end Rows
end Go.Proofs.YtgcjnpfidjfmmaaGreatDoor
