/-
  DERIVED. GIVEN WITH THE SEED: THE CARDS: each row of YtjjiphigolegbabDoorRows.lean that lists a variable, with what it lists TIED to the program's text (the seventh form; the later family's looks); each row that meets fmt, with fmt's text TOLD by the authors' own Lean function (tested against real Go, not proved from fmt's source: count such statements apart). THE CARD IS WHAT COUNTS. Prove the row's statement (the work); the ties are given (YtjjiphigolegbabDoorTie.lean); close each card by the builder's one call (the guide's Derived/Test/ToyasCard.lean, 'card_holds'). Laid BY PROGRAM, IN A SANDBOX (cutbox-door.mjs). By AI agents, Wed Nov 11 2026. No macro, syntax, notation, axiom, sorry.
-/
import Derived.Test.YtjjiphigolegbabDoorRows
import GoSem.ClaimSeven
namespace Go.Proofs.YtjjiphigolegbabDoor
namespace Rows

/-- THE TIED CARD OF 'ferrylaw09.ReadyKeeps'. -/
def readyKeepsCard : Claim7 := { stood := { row := readyKeepsRow, standIns := [], harness := (true, "154ce7c7dacc82b4046156975aaea07803acf433e94ec10ae30950a326bd61f9"), looks := true }, kinds := [], alts := [], laidByText := true, laidKinds := [.sentinel, .sentinel, .sentinel], laidTests := true, laidLooks := .later }
def ReadyKeepsCardSaid : Prop := Claim7.holds Tryd.pinned (.plain (OpenSpec.ofChange readyKeepsSpec)) readyKeepsCard

/-- THE TIED CARD OF 'ferrylaw08.TimerApart'. -/
def timerApartCard : Claim7 := { stood := { row := timerApartRow, standIns := [], harness := (true, "154ce7c7dacc82b4046156975aaea07803acf433e94ec10ae30950a326bd61f9"), looks := true }, kinds := [], alts := [], laidByText := true, laidKinds := [.handle, .sentinel, .sentinel, .sentinel, .sentinel, .sentinel, .sentinel, .sentinel, .sentinel, .sentinel, .sentinel, .sentinel, .sentinel, .sentinel, .sentinel, .sentinel, .sentinel, .sentinel, .sentinel, .sentinel, .sentinel], laidTests := true, laidLooks := .later }
def TimerApartCardSaid : Prop := Claim7.holds Tryd.pinned (.plain (OpenSpec.ofChange timerApartSpec)) timerApartCard

/-- THE TIED CARD OF 'ferrylaw08.TimerPlays'. -/
def timerPlaysCard : Claim7 := { stood := { row := timerPlaysRow, standIns := [], harness := (true, "154ce7c7dacc82b4046156975aaea07803acf433e94ec10ae30950a326bd61f9"), looks := true }, kinds := [], alts := [], laidByText := true, laidKinds := [.handle, .sentinel, .sentinel, .sentinel, .sentinel, .sentinel, .sentinel, .sentinel, .sentinel, .sentinel, .sentinel, .sentinel, .sentinel, .sentinel, .sentinel, .sentinel, .sentinel, .sentinel, .sentinel, .sentinel, .sentinel], laidTests := true, laidLooks := .later }
def TimerPlaysCardSaid : Prop := Claim7.holds Tryd.pinned (.plain (OpenSpec.ofChange timerPlaysSpec)) timerPlaysCard

/-- THE SECOND FORM's CARD OF 'ferrylaw09.ReadyKeeps'. -/
def readyKeepsUptoCard : Claim7 := { stood := { row := readyKeepsUptoRow, standIns := [], harness := (true, "154ce7c7dacc82b4046156975aaea07803acf433e94ec10ae30950a326bd61f9"), looks := true }, kinds := [], alts := [], laidByText := true, laidKinds := [.sentinel, .sentinel, .sentinel], laidTests := true, laidLooks := .later }
def ReadyKeepsUptoCardSaid : Prop := Claim7.holds Tryd.pinned (.plain (OpenSpec.upto readyKeepsSpec)) readyKeepsUptoCard

/-- THE SECOND FORM's CARD OF 'ferrylaw08.TimerApart'. -/
def timerApartUptoCard : Claim7 := { stood := { row := timerApartUptoRow, standIns := [], harness := (true, "154ce7c7dacc82b4046156975aaea07803acf433e94ec10ae30950a326bd61f9"), looks := true }, kinds := [], alts := [], laidByText := true, laidKinds := [.handle, .sentinel, .sentinel, .sentinel, .sentinel, .sentinel, .sentinel, .sentinel, .sentinel, .sentinel, .sentinel, .sentinel, .sentinel, .sentinel, .sentinel, .sentinel, .sentinel, .sentinel, .sentinel, .sentinel, .sentinel], laidTests := true, laidLooks := .later }
def TimerApartUptoCardSaid : Prop := Claim7.holds Tryd.pinned (.plain (OpenSpec.upto timerApartSpec)) timerApartUptoCard

/-- THE SECOND FORM's CARD OF 'ferrylaw08.TimerPlays'. -/
def timerPlaysUptoCard : Claim7 := { stood := { row := timerPlaysUptoRow, standIns := [], harness := (true, "154ce7c7dacc82b4046156975aaea07803acf433e94ec10ae30950a326bd61f9"), looks := true }, kinds := [], alts := [], laidByText := true, laidKinds := [.handle, .sentinel, .sentinel, .sentinel, .sentinel, .sentinel, .sentinel, .sentinel, .sentinel, .sentinel, .sentinel, .sentinel, .sentinel, .sentinel, .sentinel, .sentinel, .sentinel, .sentinel, .sentinel, .sentinel, .sentinel], laidTests := true, laidLooks := .later }
def TimerPlaysUptoCardSaid : Prop := Claim7.holds Tryd.pinned (.plain (OpenSpec.upto timerPlaysSpec)) timerPlaysUptoCard
end Rows
end Go.Proofs.YtjjiphigolegbabDoor
