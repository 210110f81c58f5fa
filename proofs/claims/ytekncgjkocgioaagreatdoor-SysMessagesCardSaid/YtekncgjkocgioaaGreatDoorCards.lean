/-
  DERIVED. GIVEN WITH THE SEED: THE CARDS: each row of YtekncgjkocgioaaGreatDoorRows.lean that lists a variable, with what it lists TIED to the program's text (the seventh form; the later family's looks); each row that meets fmt, with fmt's text TOLD by the authors' own Lean function (tested against real Go, not proved from fmt's source: count such statements apart). THE CARD IS WHAT COUNTS. Prove the row's statement (the work); the ties are given (YtekncgjkocgioaaGreatDoorTie.lean); close each card by the builder's one call (the guide's Derived/Test/ToyasCard.lean, 'card_holds'). Laid BY PROGRAM, IN A SANDBOX (cutbox-door.mjs). By AI agents, Wed Nov 11 2026. No macro, syntax, notation, axiom, sorry.
-/
import Derived.Test.YtekncgjkocgioaaGreatDoorRows
import GoSem.ClaimSeven
namespace Go.Proofs.YtekncgjkocgioaaGreatDoor
namespace Rows

/-- THE TIED CARD OF 'ferrylaw12.SysShares'. -/
def sysSharesCard : Claim7 := { stood := { row := sysSharesRow, standIns := [], harness := (true, "7dac41888f8c97669d668be93d647f31f39e32e70352c550932d4bbb09e7a92d"), looks := true }, kinds := [], alts := [], laidByText := true, laidKinds := [.sentinel, .sentinel, .sentinel, .sentinel, .sentinel, .sentinel, .sentinel, .sentinel, .sentinel], laidTests := true, laidLooks := .later }
def SysSharesCardSaid : Prop := Claim7.holds Tryz.pinned (.plain (OpenSpec.ofChange sysSharesSpec)) sysSharesCard

/-- THE TIED CARD OF 'ferrylaw12.SysMessages'. -/
def sysMessagesCard : Claim7 := { stood := { row := sysMessagesRow, standIns := [], harness := (true, "7dac41888f8c97669d668be93d647f31f39e32e70352c550932d4bbb09e7a92d"), looks := true }, kinds := [], alts := [], laidByText := true, laidKinds := [.sentinel, .sentinel, .sentinel, .sentinel, .sentinel, .sentinel, .sentinel, .sentinel, .sentinel], laidTests := true, laidLooks := .later }
def SysMessagesCardSaid : Prop := Claim7.holds Tryz.pinned (.plain (OpenSpec.ofChange sysMessagesSpec)) sysMessagesCard

/-- THE TIED CARD OF 'ferrylaw12.SysWaits'. -/
def sysWaitsCard : Claim7 := { stood := { row := sysWaitsRow, standIns := [], harness := (true, "7dac41888f8c97669d668be93d647f31f39e32e70352c550932d4bbb09e7a92d"), looks := true }, kinds := [], alts := [], laidByText := true, laidKinds := [.sentinel, .sentinel, .sentinel, .sentinel, .sentinel, .sentinel, .sentinel, .sentinel, .sentinel], laidTests := true, laidLooks := .later }
def SysWaitsCardSaid : Prop := Claim7.holds Tryz.pinned (.plain (OpenSpec.ofChange sysWaitsSpec)) sysWaitsCard

/-- THE TIED CARD OF 'ferrylaw12.SysTouches'. -/
def sysTouchesCard : Claim7 := { stood := { row := sysTouchesRow, standIns := [], harness := (true, "7dac41888f8c97669d668be93d647f31f39e32e70352c550932d4bbb09e7a92d"), looks := true }, kinds := [], alts := [], laidByText := true, laidKinds := [.sentinel, .sentinel, .sentinel, .sentinel, .sentinel, .sentinel, .sentinel, .sentinel, .sentinel], laidTests := true, laidLooks := .later }
def SysTouchesCardSaid : Prop := Claim7.holds Tryz.pinned (.plain (OpenSpec.ofChange sysTouchesSpec)) sysTouchesCard

/-- THE TIED CARD OF 'ferrylaw12.SysDoes'. -/
def sysDoesCard : Claim7 := { stood := { row := sysDoesRow, standIns := [], harness := (true, "7dac41888f8c97669d668be93d647f31f39e32e70352c550932d4bbb09e7a92d"), looks := true }, kinds := [], alts := [], laidByText := true, laidKinds := [.handle, .sentinel, .sentinel, .sentinel, .sentinel, .sentinel, .sentinel, .sentinel, .sentinel, .sentinel, .sentinel, .sentinel, .sentinel, .sentinel, .sentinel, .sentinel, .sentinel, .sentinel, .sentinel, .sentinel, .sentinel], laidTests := true, laidLooks := .later }
def SysDoesCardSaid : Prop := Claim7.holds Tryz.pinned (.plain (OpenSpec.ofChange sysDoesSpec)) sysDoesCard

/-- THE SECOND FORM's CARD OF 'ferrylaw12.SysShares'. -/
def sysSharesUptoCard : Claim7 := { stood := { row := sysSharesUptoRow, standIns := [], harness := (true, "7dac41888f8c97669d668be93d647f31f39e32e70352c550932d4bbb09e7a92d"), looks := true }, kinds := [], alts := [], laidByText := true, laidKinds := [.sentinel, .sentinel, .sentinel, .sentinel, .sentinel, .sentinel, .sentinel, .sentinel, .sentinel], laidTests := true, laidLooks := .later }
def SysSharesUptoCardSaid : Prop := Claim7.holds Tryz.pinned (.plain (OpenSpec.upto sysSharesSpec)) sysSharesUptoCard

/-- THE SECOND FORM's CARD OF 'ferrylaw12.SysMessages'. -/
def sysMessagesUptoCard : Claim7 := { stood := { row := sysMessagesUptoRow, standIns := [], harness := (true, "7dac41888f8c97669d668be93d647f31f39e32e70352c550932d4bbb09e7a92d"), looks := true }, kinds := [], alts := [], laidByText := true, laidKinds := [.sentinel, .sentinel, .sentinel, .sentinel, .sentinel, .sentinel, .sentinel, .sentinel, .sentinel], laidTests := true, laidLooks := .later }
def SysMessagesUptoCardSaid : Prop := Claim7.holds Tryz.pinned (.plain (OpenSpec.upto sysMessagesSpec)) sysMessagesUptoCard

/-- THE SECOND FORM's CARD OF 'ferrylaw12.SysWaits'. -/
def sysWaitsUptoCard : Claim7 := { stood := { row := sysWaitsUptoRow, standIns := [], harness := (true, "7dac41888f8c97669d668be93d647f31f39e32e70352c550932d4bbb09e7a92d"), looks := true }, kinds := [], alts := [], laidByText := true, laidKinds := [.sentinel, .sentinel, .sentinel, .sentinel, .sentinel, .sentinel, .sentinel, .sentinel, .sentinel], laidTests := true, laidLooks := .later }
def SysWaitsUptoCardSaid : Prop := Claim7.holds Tryz.pinned (.plain (OpenSpec.upto sysWaitsSpec)) sysWaitsUptoCard

/-- THE SECOND FORM's CARD OF 'ferrylaw12.SysTouches'. -/
def sysTouchesUptoCard : Claim7 := { stood := { row := sysTouchesUptoRow, standIns := [], harness := (true, "7dac41888f8c97669d668be93d647f31f39e32e70352c550932d4bbb09e7a92d"), looks := true }, kinds := [], alts := [], laidByText := true, laidKinds := [.sentinel, .sentinel, .sentinel, .sentinel, .sentinel, .sentinel, .sentinel, .sentinel, .sentinel], laidTests := true, laidLooks := .later }
def SysTouchesUptoCardSaid : Prop := Claim7.holds Tryz.pinned (.plain (OpenSpec.upto sysTouchesSpec)) sysTouchesUptoCard

/-- THE SECOND FORM's CARD OF 'ferrylaw12.SysDoes'. -/
def sysDoesUptoCard : Claim7 := { stood := { row := sysDoesUptoRow, standIns := [], harness := (true, "7dac41888f8c97669d668be93d647f31f39e32e70352c550932d4bbb09e7a92d"), looks := true }, kinds := [], alts := [], laidByText := true, laidKinds := [.handle, .sentinel, .sentinel, .sentinel, .sentinel, .sentinel, .sentinel, .sentinel, .sentinel, .sentinel, .sentinel, .sentinel, .sentinel, .sentinel, .sentinel, .sentinel, .sentinel, .sentinel, .sentinel, .sentinel, .sentinel], laidTests := true, laidLooks := .later }
def SysDoesUptoCardSaid : Prop := Claim7.holds Tryz.pinned (.plain (OpenSpec.upto sysDoesSpec)) sysDoesUptoCard
end Rows
end Go.Proofs.YtekncgjkocgioaaGreatDoor
