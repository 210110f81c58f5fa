/-
  DERIVED. GIVEN WITH THE SEED: THE CARDS: each row of YtjjiphigolegbaaDoorRows.lean that lists a variable, with what it lists TIED to the program's text (the seventh form; the later family's looks); each row that meets fmt, with fmt's text TOLD by the authors' own Lean function (tested against real Go, not proved from fmt's source: count such statements apart). THE CARD IS WHAT COUNTS. Prove the row's statement (the work); the ties are given (YtjjiphigolegbaaDoorTie.lean); close each card by the builder's one call (the guide's Derived/Test/ToyasCard.lean, 'card_holds'). Laid BY PROGRAM, IN A SANDBOX (cutbox-door.mjs). By AI agents, Wed Nov 11 2026. No macro, syntax, notation, axiom, sorry.
-/
import Derived.Test.YtjjiphigolegbaaDoorRows
import GoSem.ClaimSeven
namespace Go.Proofs.YtjjiphigolegbaaDoor
namespace Rows

/-- THE TIED CARD OF 'ferrylaw09.ReadyTurns'. -/
def readyTurnsCard : Claim7 := { stood := { row := readyTurnsRow, standIns := [], harness := (true, "da26760cf75b9c293af45aeb444ad4429ad40f1d87a6779f4b8aeacaf9e154b5"), looks := true }, kinds := [], alts := [], laidByText := true, laidKinds := [.sentinel, .sentinel, .sentinel], laidTests := true, laidLooks := .later }
def ReadyTurnsCardSaid : Prop := Claim7.holds Tryd.pinned (.plain (OpenSpec.ofChange readyTurnsSpec)) readyTurnsCard

/-- THE TIED CARD OF 'ferrylaw27.RunWords'. -/
def runWordsCard : Claim7 := { stood := { row := runWordsRow, standIns := [], harness := (true, "da26760cf75b9c293af45aeb444ad4429ad40f1d87a6779f4b8aeacaf9e154b5"), looks := true }, kinds := [], alts := [], laidByText := true, laidKinds := [.data, .data, .data], laidTests := true, laidLooks := .later }
def RunWordsCardSaid : Prop := Claim7.holds Tryd.pinned (.plain (OpenSpec.ofChange runWordsSpec)) runWordsCard

/-- THE TIED CARD OF 'ferrylaw09.ReadyStates'. -/
def readyStatesCard : Claim7 := { stood := { row := readyStatesRow, standIns := [], harness := (true, "da26760cf75b9c293af45aeb444ad4429ad40f1d87a6779f4b8aeacaf9e154b5"), looks := true }, kinds := [], alts := [], laidByText := true, laidKinds := [.sentinel, .sentinel, .sentinel], laidTests := true, laidLooks := .later }
def ReadyStatesCardSaid : Prop := Claim7.holds Tryd.pinned (.plain (OpenSpec.ofChange readyStatesSpec)) readyStatesCard

/-- THE TIED CARD OF 'ferrylaw09.ReadyLends'. -/
def readyLendsCard : Claim7 := { stood := { row := readyLendsRow, standIns := [], harness := (true, "da26760cf75b9c293af45aeb444ad4429ad40f1d87a6779f4b8aeacaf9e154b5"), looks := true }, kinds := [], alts := [], laidByText := true, laidKinds := [.sentinel, .sentinel, .sentinel], laidTests := true, laidLooks := .later }
def ReadyLendsCardSaid : Prop := Claim7.holds Tryd.pinned (.plain (OpenSpec.ofChange readyLendsSpec)) readyLendsCard

/-- THE TIED CARD OF 'ferrylaw27.RunTells'. -/
def runTellsCard : Claim7 := { stood := { row := runTellsRow, standIns := [], harness := (true, "da26760cf75b9c293af45aeb444ad4429ad40f1d87a6779f4b8aeacaf9e154b5"), looks := true }, kinds := [], alts := [], laidByText := true, laidKinds := [.data, .data, .data], laidTests := true, laidLooks := .later }
def RunTellsCardSaid : Prop := Claim7.holds Tryd.pinned (.plain (OpenSpec.ofChange runTellsSpec)) runTellsCard

/-- THE TIED CARD OF 'ferrylaw09.ReadyFires'. -/
def readyFiresCard : Claim7 := { stood := { row := readyFiresRow, standIns := [], harness := (true, "da26760cf75b9c293af45aeb444ad4429ad40f1d87a6779f4b8aeacaf9e154b5"), looks := true }, kinds := [], alts := [], laidByText := true, laidKinds := [.handle, .sentinel, .sentinel, .sentinel, .sentinel, .sentinel, .sentinel, .sentinel, .sentinel, .sentinel, .sentinel, .sentinel, .sentinel, .sentinel, .sentinel, .sentinel, .sentinel, .sentinel, .sentinel, .sentinel, .sentinel], laidTests := true, laidLooks := .later }
def ReadyFiresCardSaid : Prop := Claim7.holds Tryd.pinned (.plain (OpenSpec.ofChange readyFiresSpec)) readyFiresCard

/-- THE TIED CARD OF 'ferrylaw09.ReadyForms'. -/
def readyFormsCard : Claim7 := { stood := { row := readyFormsRow, standIns := [], harness := (true, "da26760cf75b9c293af45aeb444ad4429ad40f1d87a6779f4b8aeacaf9e154b5"), looks := true }, kinds := [], alts := [], laidByText := true, laidKinds := [.handle, .sentinel, .sentinel, .sentinel, .sentinel, .sentinel, .sentinel, .sentinel, .sentinel, .sentinel, .sentinel, .sentinel, .sentinel, .sentinel, .sentinel, .sentinel, .sentinel, .sentinel, .sentinel, .sentinel, .sentinel], laidTests := true, laidLooks := .later }
def ReadyFormsCardSaid : Prop := Claim7.holds Tryd.pinned (.plain (OpenSpec.ofChange readyFormsSpec)) readyFormsCard

/-- THE TIED CARD OF 'ferrylaw09.ReadyWakes'. -/
def readyWakesCard : Claim7 := { stood := { row := readyWakesRow, standIns := [], harness := (true, "da26760cf75b9c293af45aeb444ad4429ad40f1d87a6779f4b8aeacaf9e154b5"), looks := true }, kinds := [], alts := [], laidByText := true, laidKinds := [.handle, .sentinel, .sentinel, .sentinel, .sentinel, .sentinel, .sentinel, .sentinel, .sentinel, .sentinel, .sentinel, .sentinel, .sentinel, .sentinel, .sentinel, .sentinel, .sentinel, .sentinel, .sentinel, .sentinel, .sentinel], laidTests := true, laidLooks := .later }
def ReadyWakesCardSaid : Prop := Claim7.holds Tryd.pinned (.plain (OpenSpec.ofChange readyWakesSpec)) readyWakesCard

/-- THE TIED CARD OF 'ferrylaw08.TimerSteps'. -/
def timerStepsCard : Claim7 := { stood := { row := timerStepsRow, standIns := [], harness := (true, "da26760cf75b9c293af45aeb444ad4429ad40f1d87a6779f4b8aeacaf9e154b5"), looks := true }, kinds := [], alts := [], laidByText := true, laidKinds := [.sentinel, .sentinel, .sentinel], laidTests := true, laidLooks := .later }
def TimerStepsCardSaid : Prop := Claim7.holds Tryd.pinned (.plain (OpenSpec.ofChange timerStepsSpec)) timerStepsCard

/-- THE TIED CARD OF 'ferrylaw08.TimerOne'. -/
def timerOneCard : Claim7 := { stood := { row := timerOneRow, standIns := [], harness := (true, "da26760cf75b9c293af45aeb444ad4429ad40f1d87a6779f4b8aeacaf9e154b5"), looks := true }, kinds := [], alts := [], laidByText := true, laidKinds := [.sentinel, .sentinel, .sentinel], laidTests := true, laidLooks := .later }
def TimerOneCardSaid : Prop := Claim7.holds Tryd.pinned (.plain (OpenSpec.ofChange timerOneSpec)) timerOneCard

/-- THE TIED CARD OF 'ferrylaw08.TimerRelative'. -/
def timerRelativeCard : Claim7 := { stood := { row := timerRelativeRow, standIns := [], harness := (true, "da26760cf75b9c293af45aeb444ad4429ad40f1d87a6779f4b8aeacaf9e154b5"), looks := true }, kinds := [], alts := [], laidByText := true, laidKinds := [.sentinel, .sentinel, .sentinel], laidTests := true, laidLooks := .later }
def TimerRelativeCardSaid : Prop := Claim7.holds Tryd.pinned (.plain (OpenSpec.ofChange timerRelativeSpec)) timerRelativeCard

/-- THE TIED CARD OF 'ferrylaw09.ReadyBlocks'. -/
def readyBlocksCard : Claim7 := { stood := { row := readyBlocksRow, standIns := [], harness := (true, "da26760cf75b9c293af45aeb444ad4429ad40f1d87a6779f4b8aeacaf9e154b5"), looks := true }, kinds := [], alts := [], laidByText := true, laidKinds := [.sentinel, .sentinel, .sentinel], laidTests := true, laidLooks := .later }
def ReadyBlocksCardSaid : Prop := Claim7.holds Tryd.pinned (.plain (OpenSpec.ofChange readyBlocksSpec)) readyBlocksCard

/-- THE SECOND FORM's CARD OF 'ferrylaw09.ReadyTurns'. -/
def readyTurnsUptoCard : Claim7 := { stood := { row := readyTurnsUptoRow, standIns := [], harness := (true, "da26760cf75b9c293af45aeb444ad4429ad40f1d87a6779f4b8aeacaf9e154b5"), looks := true }, kinds := [], alts := [], laidByText := true, laidKinds := [.sentinel, .sentinel, .sentinel], laidTests := true, laidLooks := .later }
def ReadyTurnsUptoCardSaid : Prop := Claim7.holds Tryd.pinned (.plain (OpenSpec.upto readyTurnsSpec)) readyTurnsUptoCard

/-- THE SECOND FORM's CARD OF 'ferrylaw27.RunWords'. -/
def runWordsUptoCard : Claim7 := { stood := { row := runWordsUptoRow, standIns := [], harness := (true, "da26760cf75b9c293af45aeb444ad4429ad40f1d87a6779f4b8aeacaf9e154b5"), looks := true }, kinds := [], alts := [], laidByText := true, laidKinds := [.data, .data, .data], laidTests := true, laidLooks := .later }
def RunWordsUptoCardSaid : Prop := Claim7.holds Tryd.pinned (.plain (OpenSpec.upto runWordsSpec)) runWordsUptoCard

/-- THE SECOND FORM's CARD OF 'ferrylaw09.ReadyStates'. -/
def readyStatesUptoCard : Claim7 := { stood := { row := readyStatesUptoRow, standIns := [], harness := (true, "da26760cf75b9c293af45aeb444ad4429ad40f1d87a6779f4b8aeacaf9e154b5"), looks := true }, kinds := [], alts := [], laidByText := true, laidKinds := [.sentinel, .sentinel, .sentinel], laidTests := true, laidLooks := .later }
def ReadyStatesUptoCardSaid : Prop := Claim7.holds Tryd.pinned (.plain (OpenSpec.upto readyStatesSpec)) readyStatesUptoCard

/-- THE SECOND FORM's CARD OF 'ferrylaw09.ReadyLends'. -/
def readyLendsUptoCard : Claim7 := { stood := { row := readyLendsUptoRow, standIns := [], harness := (true, "da26760cf75b9c293af45aeb444ad4429ad40f1d87a6779f4b8aeacaf9e154b5"), looks := true }, kinds := [], alts := [], laidByText := true, laidKinds := [.sentinel, .sentinel, .sentinel], laidTests := true, laidLooks := .later }
def ReadyLendsUptoCardSaid : Prop := Claim7.holds Tryd.pinned (.plain (OpenSpec.upto readyLendsSpec)) readyLendsUptoCard

/-- THE SECOND FORM's CARD OF 'ferrylaw27.RunTells'. -/
def runTellsUptoCard : Claim7 := { stood := { row := runTellsUptoRow, standIns := [], harness := (true, "da26760cf75b9c293af45aeb444ad4429ad40f1d87a6779f4b8aeacaf9e154b5"), looks := true }, kinds := [], alts := [], laidByText := true, laidKinds := [.data, .data, .data], laidTests := true, laidLooks := .later }
def RunTellsUptoCardSaid : Prop := Claim7.holds Tryd.pinned (.plain (OpenSpec.upto runTellsSpec)) runTellsUptoCard

/-- THE SECOND FORM's CARD OF 'ferrylaw09.ReadyFires'. -/
def readyFiresUptoCard : Claim7 := { stood := { row := readyFiresUptoRow, standIns := [], harness := (true, "da26760cf75b9c293af45aeb444ad4429ad40f1d87a6779f4b8aeacaf9e154b5"), looks := true }, kinds := [], alts := [], laidByText := true, laidKinds := [.handle, .sentinel, .sentinel, .sentinel, .sentinel, .sentinel, .sentinel, .sentinel, .sentinel, .sentinel, .sentinel, .sentinel, .sentinel, .sentinel, .sentinel, .sentinel, .sentinel, .sentinel, .sentinel, .sentinel, .sentinel], laidTests := true, laidLooks := .later }
def ReadyFiresUptoCardSaid : Prop := Claim7.holds Tryd.pinned (.plain (OpenSpec.upto readyFiresSpec)) readyFiresUptoCard

/-- THE SECOND FORM's CARD OF 'ferrylaw09.ReadyForms'. -/
def readyFormsUptoCard : Claim7 := { stood := { row := readyFormsUptoRow, standIns := [], harness := (true, "da26760cf75b9c293af45aeb444ad4429ad40f1d87a6779f4b8aeacaf9e154b5"), looks := true }, kinds := [], alts := [], laidByText := true, laidKinds := [.handle, .sentinel, .sentinel, .sentinel, .sentinel, .sentinel, .sentinel, .sentinel, .sentinel, .sentinel, .sentinel, .sentinel, .sentinel, .sentinel, .sentinel, .sentinel, .sentinel, .sentinel, .sentinel, .sentinel, .sentinel], laidTests := true, laidLooks := .later }
def ReadyFormsUptoCardSaid : Prop := Claim7.holds Tryd.pinned (.plain (OpenSpec.upto readyFormsSpec)) readyFormsUptoCard

/-- THE SECOND FORM's CARD OF 'ferrylaw09.ReadyWakes'. -/
def readyWakesUptoCard : Claim7 := { stood := { row := readyWakesUptoRow, standIns := [], harness := (true, "da26760cf75b9c293af45aeb444ad4429ad40f1d87a6779f4b8aeacaf9e154b5"), looks := true }, kinds := [], alts := [], laidByText := true, laidKinds := [.handle, .sentinel, .sentinel, .sentinel, .sentinel, .sentinel, .sentinel, .sentinel, .sentinel, .sentinel, .sentinel, .sentinel, .sentinel, .sentinel, .sentinel, .sentinel, .sentinel, .sentinel, .sentinel, .sentinel, .sentinel], laidTests := true, laidLooks := .later }
def ReadyWakesUptoCardSaid : Prop := Claim7.holds Tryd.pinned (.plain (OpenSpec.upto readyWakesSpec)) readyWakesUptoCard

/-- THE SECOND FORM's CARD OF 'ferrylaw08.TimerSteps'. -/
def timerStepsUptoCard : Claim7 := { stood := { row := timerStepsUptoRow, standIns := [], harness := (true, "da26760cf75b9c293af45aeb444ad4429ad40f1d87a6779f4b8aeacaf9e154b5"), looks := true }, kinds := [], alts := [], laidByText := true, laidKinds := [.sentinel, .sentinel, .sentinel], laidTests := true, laidLooks := .later }
def TimerStepsUptoCardSaid : Prop := Claim7.holds Tryd.pinned (.plain (OpenSpec.upto timerStepsSpec)) timerStepsUptoCard

/-- THE SECOND FORM's CARD OF 'ferrylaw08.TimerOne'. -/
def timerOneUptoCard : Claim7 := { stood := { row := timerOneUptoRow, standIns := [], harness := (true, "da26760cf75b9c293af45aeb444ad4429ad40f1d87a6779f4b8aeacaf9e154b5"), looks := true }, kinds := [], alts := [], laidByText := true, laidKinds := [.sentinel, .sentinel, .sentinel], laidTests := true, laidLooks := .later }
def TimerOneUptoCardSaid : Prop := Claim7.holds Tryd.pinned (.plain (OpenSpec.upto timerOneSpec)) timerOneUptoCard

/-- THE SECOND FORM's CARD OF 'ferrylaw08.TimerRelative'. -/
def timerRelativeUptoCard : Claim7 := { stood := { row := timerRelativeUptoRow, standIns := [], harness := (true, "da26760cf75b9c293af45aeb444ad4429ad40f1d87a6779f4b8aeacaf9e154b5"), looks := true }, kinds := [], alts := [], laidByText := true, laidKinds := [.sentinel, .sentinel, .sentinel], laidTests := true, laidLooks := .later }
def TimerRelativeUptoCardSaid : Prop := Claim7.holds Tryd.pinned (.plain (OpenSpec.upto timerRelativeSpec)) timerRelativeUptoCard

/-- THE SECOND FORM's CARD OF 'ferrylaw09.ReadyBlocks'. -/
def readyBlocksUptoCard : Claim7 := { stood := { row := readyBlocksUptoRow, standIns := [], harness := (true, "da26760cf75b9c293af45aeb444ad4429ad40f1d87a6779f4b8aeacaf9e154b5"), looks := true }, kinds := [], alts := [], laidByText := true, laidKinds := [.sentinel, .sentinel, .sentinel], laidTests := true, laidLooks := .later }
def ReadyBlocksUptoCardSaid : Prop := Claim7.holds Tryd.pinned (.plain (OpenSpec.upto readyBlocksSpec)) readyBlocksUptoCard
end Rows
end Go.Proofs.YtjjiphigolegbaaDoor
