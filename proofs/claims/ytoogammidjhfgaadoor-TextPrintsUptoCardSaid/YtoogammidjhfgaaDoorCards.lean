/-
  DERIVED. GIVEN WITH THE SEED: THE CARDS: each row of YtoogammidjhfgaaDoorRows.lean that lists a variable, with what it lists TIED to the program's text (the seventh form; the later family's looks); each row that meets fmt, with fmt's text TOLD by the authors' own Lean function (tested against real Go, not proved from fmt's source: count such statements apart). THE CARD IS WHAT COUNTS. Prove the row's statement (the work); the ties are given (YtoogammidjhfgaaDoorTie.lean); close each card by the builder's one call (the guide's Derived/Test/ToyasCard.lean, 'card_holds'). Laid BY PROGRAM, IN A SANDBOX (cutbox-door.mjs). By AI agents, Wed Nov 11 2026. No macro, syntax, notation, axiom, sorry.
-/
import Derived.Test.YtoogammidjhfgaaDoorRows
import GoSem.ClaimSeven
namespace Go.Proofs.YtoogammidjhfgaaDoor
namespace Rows

/-- THE TIED CARD OF 'ferrylaw09.ReadyLends'. -/
def readyLendsCard : Claim7 := { stood := { row := readyLendsRow, standIns := [], harness := (true, "8605f0e35148b5575554071c93f1002a9aa4838c7d3c8e02554425a037c36d3d"), looks := true }, kinds := [], alts := [], laidByText := true, laidKinds := [.sentinel, .sentinel, .sentinel], laidTests := true, laidLooks := .later }
def ReadyLendsCardSaid : Prop := Claim7.holds Tryd.pinned (.plain (OpenSpec.ofChange readyLendsSpec)) readyLendsCard

/-- THE TIED CARD OF 'ferrylaw27.RunTells'. -/
def runTellsCard : Claim7 := { stood := { row := runTellsRow, standIns := [], harness := (true, "8605f0e35148b5575554071c93f1002a9aa4838c7d3c8e02554425a037c36d3d"), looks := true }, kinds := [], alts := [], laidByText := true, laidKinds := [.data, .data, .data], laidTests := true, laidLooks := .later }
def RunTellsCardSaid : Prop := Claim7.holds Tryd.pinned (.plain (OpenSpec.ofChange runTellsSpec)) runTellsCard

/-- THE TIED CARD OF 'ferrylaw25.TextPrints'. -/
def textPrintsCard : Claim7 := { stood := { row := textPrintsRow, standIns := [], harness := (true, "8605f0e35148b5575554071c93f1002a9aa4838c7d3c8e02554425a037c36d3d"), looks := true }, kinds := [], alts := [], laidByText := true, laidKinds := [.data, .data, .data, .handle, .sentinel, .sentinel, .sentinel, .sentinel, .sentinel, .sentinel, .sentinel, .sentinel, .sentinel, .sentinel, .sentinel, .sentinel, .sentinel, .sentinel, .sentinel, .sentinel, .sentinel, .sentinel, .sentinel, .sentinel], laidTests := true, laidLooks := .later }
def TextPrintsCardSaid : Prop := Claim7.holds Tryd.pinned (.plain (OpenSpec.ofChange textPrintsSpec)) textPrintsCard

/-- THE TIED CARD OF 'ferrylaw09.ReadyKeeps'. -/
def readyKeepsCard : Claim7 := { stood := { row := readyKeepsRow, standIns := [], harness := (true, "8605f0e35148b5575554071c93f1002a9aa4838c7d3c8e02554425a037c36d3d"), looks := true }, kinds := [], alts := [], laidByText := true, laidKinds := [.sentinel, .sentinel, .sentinel], laidTests := true, laidLooks := .later }
def ReadyKeepsCardSaid : Prop := Claim7.holds Tryd.pinned (.plain (OpenSpec.ofChange readyKeepsSpec)) readyKeepsCard

/-- THE TIED CARD OF 'ferrylaw08.TimerApart'. -/
def timerApartCard : Claim7 := { stood := { row := timerApartRow, standIns := [], harness := (true, "8605f0e35148b5575554071c93f1002a9aa4838c7d3c8e02554425a037c36d3d"), looks := true }, kinds := [], alts := [], laidByText := true, laidKinds := [.handle, .sentinel, .sentinel, .sentinel, .sentinel, .sentinel, .sentinel, .sentinel, .sentinel, .sentinel, .sentinel, .sentinel, .sentinel, .sentinel, .sentinel, .sentinel, .sentinel, .sentinel, .sentinel, .sentinel, .sentinel], laidTests := true, laidLooks := .later }
def TimerApartCardSaid : Prop := Claim7.holds Tryd.pinned (.plain (OpenSpec.ofChange timerApartSpec)) timerApartCard

/-- THE SECOND FORM's CARD OF 'ferrylaw09.ReadyLends'. -/
def readyLendsUptoCard : Claim7 := { stood := { row := readyLendsUptoRow, standIns := [], harness := (true, "8605f0e35148b5575554071c93f1002a9aa4838c7d3c8e02554425a037c36d3d"), looks := true }, kinds := [], alts := [], laidByText := true, laidKinds := [.sentinel, .sentinel, .sentinel], laidTests := true, laidLooks := .later }
def ReadyLendsUptoCardSaid : Prop := Claim7.holds Tryd.pinned (.plain (OpenSpec.upto readyLendsSpec)) readyLendsUptoCard

/-- THE SECOND FORM's CARD OF 'ferrylaw27.RunTells'. -/
def runTellsUptoCard : Claim7 := { stood := { row := runTellsUptoRow, standIns := [], harness := (true, "8605f0e35148b5575554071c93f1002a9aa4838c7d3c8e02554425a037c36d3d"), looks := true }, kinds := [], alts := [], laidByText := true, laidKinds := [.data, .data, .data], laidTests := true, laidLooks := .later }
def RunTellsUptoCardSaid : Prop := Claim7.holds Tryd.pinned (.plain (OpenSpec.upto runTellsSpec)) runTellsUptoCard

/-- THE SECOND FORM's CARD OF 'ferrylaw25.TextPrints'. -/
def textPrintsUptoCard : Claim7 := { stood := { row := textPrintsUptoRow, standIns := [], harness := (true, "8605f0e35148b5575554071c93f1002a9aa4838c7d3c8e02554425a037c36d3d"), looks := true }, kinds := [], alts := [], laidByText := true, laidKinds := [.data, .data, .data, .handle, .sentinel, .sentinel, .sentinel, .sentinel, .sentinel, .sentinel, .sentinel, .sentinel, .sentinel, .sentinel, .sentinel, .sentinel, .sentinel, .sentinel, .sentinel, .sentinel, .sentinel, .sentinel, .sentinel, .sentinel], laidTests := true, laidLooks := .later }
def TextPrintsUptoCardSaid : Prop := Claim7.holds Tryd.pinned (.plain (OpenSpec.upto textPrintsSpec)) textPrintsUptoCard

/-- THE SECOND FORM's CARD OF 'ferrylaw09.ReadyKeeps'. -/
def readyKeepsUptoCard : Claim7 := { stood := { row := readyKeepsUptoRow, standIns := [], harness := (true, "8605f0e35148b5575554071c93f1002a9aa4838c7d3c8e02554425a037c36d3d"), looks := true }, kinds := [], alts := [], laidByText := true, laidKinds := [.sentinel, .sentinel, .sentinel], laidTests := true, laidLooks := .later }
def ReadyKeepsUptoCardSaid : Prop := Claim7.holds Tryd.pinned (.plain (OpenSpec.upto readyKeepsSpec)) readyKeepsUptoCard

/-- THE SECOND FORM's CARD OF 'ferrylaw08.TimerApart'. -/
def timerApartUptoCard : Claim7 := { stood := { row := timerApartUptoRow, standIns := [], harness := (true, "8605f0e35148b5575554071c93f1002a9aa4838c7d3c8e02554425a037c36d3d"), looks := true }, kinds := [], alts := [], laidByText := true, laidKinds := [.handle, .sentinel, .sentinel, .sentinel, .sentinel, .sentinel, .sentinel, .sentinel, .sentinel, .sentinel, .sentinel, .sentinel, .sentinel, .sentinel, .sentinel, .sentinel, .sentinel, .sentinel, .sentinel, .sentinel, .sentinel], laidTests := true, laidLooks := .later }
def TimerApartUptoCardSaid : Prop := Claim7.holds Tryd.pinned (.plain (OpenSpec.upto timerApartSpec)) timerApartUptoCard
end Rows
end Go.Proofs.YtoogammidjhfgaaDoor
