/-
  NARROWER THAN 'FOR EVERY INPUT', by the rows' own cells (each row's printed sentence says how): SysNames: laid.
  DERIVED. THE GIVEN ROWS OF THIS SEAT. 1 by the template 'for every input the law returns true; each argument reads behind the call as it read before'; 0 by the template 'total and deterministic' (their statements: YtgcjnpfidjfmmaaGreatDoorTotals.lean).
  GIVEN WITH THE SEED: the statements are not yours to turn. If you find one false, say at which input.
  Laid BY PROGRAM, IN A SANDBOX (cutbox-rows.mjs): the forced cells as the released guide's own fill.sh prints them over the translation 96c8dd2ceeed412b… (all of the seat's roots in one cut). By AI agents, Wed Nov 11 2026. No macro, syntax, notation, axiom, sorry.
-/
import Derived.Test.YtgcjnpfidjfmmaaGreatDoorChecked
import GoSem.Claim
import GoSem.ClaimJoined
import GoSem.ClaimMapViews
import Derived.JoinedTies
import Derived.KernelRfl
namespace Go.Proofs.YtgcjnpfidjfmmaaGreatDoor
/- THE CELL 'sum', in the pinned program and in every row, IS THE sha256 OF THE DUMP (.gsa) THAT YtgcjnpfidjfmmaaGreatDoorProg.lean LOADS. Nothing in Lean hashes anything: it is a label: what it is worth is what the hold of that sum in a sandbox is worth. -/
noncomputable def Tryz.pinned : Pinned := { name := "ytgcjnpfidjfmmaagreatdoor", sum := "96c8dd2ceeed412b5769f3ebd06a3a3125edd87a62a5855387e4e592778bb526", checked := Tryz.checked }
namespace Rows
def none {H : Type} : Left H := { results := [], args := [] }

/- WHAT THE LISTED PACKAGE-LEVEL VARIABLES READ AS WHEN THE CALL BEGINS. Each datum BY PROGRAM (the guide's laid-datum.mjs) off the statement by which the dump's own 'gosem.cut.vars' lays the variable. In a bare row this is a premise. The card (YtgcjnpfidjfmmaaGreatDoorCards.lean) ties it to the program's text. -/
def laid_ferry_api_ErrRange {H : Type} : DataW H := .iface "*errors.errorString" (.ptr (.agg [.lit (.string [97, 32, 110, 117, 109, 98, 101, 114, 32, 111, 117, 116, 32, 111, 102, 32, 105, 116, 115, 32, 114, 97, 110, 103, 101])]))
def laid_ferry_api_ErrKind {H : Type} : DataW H := .iface "*errors.errorString" (.ptr (.agg [.lit (.string [110, 111, 32, 115, 117, 99, 104, 32, 107, 105, 110, 100])]))
def laid_ferry_api_ErrPlan {H : Type} : DataW H := .iface "*errors.errorString" (.ptr (.agg [.lit (.string [110, 111, 116, 32, 111, 102, 32, 116, 104, 105, 115, 32, 112, 108, 97, 110])]))
def laid_ferry_api_ErrState {H : Type} : DataW H := .iface "*errors.errorString" (.ptr (.agg [.lit (.string [116, 104, 101, 32, 115, 116, 97, 116, 101, 32, 98, 114, 101, 97, 107, 115, 32, 97, 32, 114, 117, 108, 101])]))
def laid_ferry_api_ErrSize {H : Type} : DataW H := .iface "*errors.errorString" (.ptr (.agg [.lit (.string [116, 111, 111, 32, 108, 97, 114, 103, 101])]))
def laid_ferry_api_ErrArg {H : Type} : DataW H := .iface "*errors.errorString" (.ptr (.agg [.lit (.string [97, 32, 119, 114, 111, 110, 103, 32, 97, 114, 103, 117, 109, 101, 110, 116])]))
def laid_ferry_api_ErrBusy {H : Type} : DataW H := .iface "*errors.errorString" (.ptr (.agg [.lit (.string [115, 111, 109, 101, 116, 104, 105, 110, 103, 32, 105, 115, 32, 117, 110, 100, 101, 114, 32, 119, 97, 121])]))
def laid_ferry_api_ErrNone {H : Type} : DataW H := .iface "*errors.errorString" (.ptr (.agg [.lit (.string [116, 104, 101, 114, 101, 32, 105, 115, 32, 110, 111, 110, 101])]))

/-- 'ferrylaw12.SysNames': WHATEVER THE INPUT: true; the input reads as it did. -/
def sysNamesSpec : ChangeSpec := { name := "sysNames", fn := fun _ => fun
  | [d1, d2] => { results := [.lit (.bool true)], args := [d1, d2] }
  | _ => none }
def sysNamesRow : OpenClaim := { program := "ytgcjnpfidjfmmaagreatdoor", sum := "96c8dd2ceeed412b5769f3ebd06a3a3125edd87a62a5855387e4e592778bb526", func := "ferry/ferrylaw12.SysNames", spec := "sysNames", unfollowed := true, recurses := true, named := ["ferry/api.ErrState", "ferry/api.ErrArg", "ferry/api.ErrNone", "ferry/api.ErrKind", "ferry/api.ErrPlan", "ferry/api.ErrSize", "ferry/api.ErrRange", "ferry/api.ErrBusy"], apart := false, laid := [("ferry/api.ErrRange", laid_ferry_api_ErrRange), ("ferry/api.ErrKind", laid_ferry_api_ErrKind), ("ferry/api.ErrPlan", laid_ferry_api_ErrPlan), ("ferry/api.ErrState", laid_ferry_api_ErrState), ("ferry/api.ErrSize", laid_ferry_api_ErrSize), ("ferry/api.ErrArg", laid_ferry_api_ErrArg), ("ferry/api.ErrBusy", laid_ferry_api_ErrBusy), ("ferry/api.ErrNone", laid_ferry_api_ErrNone)] }
def SysNamesSaid : Prop := sysNamesRow.holds Tryz.pinned (OpenSpec.ofChange sysNamesSpec)

/-- ITS FALSE NEIGHBOUR: 'it returns false'. Refute it at one input. -/
def sysNamesWrong : ChangeSpec := { name := "sysNames", fn := fun _ => fun
  | [d1, d2] => { results := [.lit (.bool false)], args := [d1, d2] }
  | _ => none }
def SysNamesWrongFalsely : Prop := sysNamesRow.holds Tryz.pinned (OpenSpec.ofChange sysNamesWrong)

/- THE SECOND FORM. 'bulk': how many values and letters a reading holds, each counted each time it is reached (what is shared counts as often as it is met; a slice's spare places count too). A statement '..UptoSaid' is the law's where the arguments, and the package variables that the reading takes, are together of bulk at most 1048576: NARROWER than '..Said'. Prove '..Said' where nothing that the law and all that it calls make is longer than what came in: it says more and counts as full. Else prove '..UptoSaid'. A law counts once. -/
mutual
def uptoBulk {H : Type} : DataW H → Nat
  | .lit (.string bytes) => bytes.length + 1
  | .lit _ => 1
  | .nil => 1
  | .ptr d => uptoBulk d + 1
  | .slice elems spare => uptoBulkAll elems + uptoBulkAll spare + 1
  | .agg parts => uptoBulkAll parts + 1
  | .iface _ d => uptoBulk d + 1
  | .map entries => uptoBulkEntries entries + 1
  | .held _ => 1
def uptoBulkAll {H : Type} : List (DataW H) → Nat
  | [] => 0
  | d :: r => uptoBulk d + uptoBulkAll r
def uptoBulkEntries {H : Type} : List (Lit × DataW H) → Nat
  | [] => 0
  | x :: r => uptoBulkEntry x + uptoBulkEntries r
def uptoBulkEntry {H : Type} : Lit × DataW H → Nat
  | (.string bytes, d) => bytes.length + uptoBulk d + 1
  | (_, d) => uptoBulk d + 1
 end
def uptoSmall : (H : Type) → List (DataW H) → Bool := fun _ ds => decide (uptoBulkAll ds ≤ 1048576)
def OpenSpec.upto (s : _root_.Go.ChangeSpec) : _root_.Go.OpenSpec := { _root_.Go.OpenSpec.ofChange s with cond := some uptoSmall }

/-- 'ferrylaw12.SysNames', WHERE WHAT IT READS IS OF BULK AT MOST 1048576: true; the input reads as it did. -/
def sysNamesUptoRow : OpenClaim := { program := "ytgcjnpfidjfmmaagreatdoor", sum := "96c8dd2ceeed412b5769f3ebd06a3a3125edd87a62a5855387e4e592778bb526", func := "ferry/ferrylaw12.SysNames", spec := "sysNames", unfollowed := true, recurses := true, named := ["ferry/api.ErrState", "ferry/api.ErrArg", "ferry/api.ErrNone", "ferry/api.ErrKind", "ferry/api.ErrPlan", "ferry/api.ErrSize", "ferry/api.ErrRange", "ferry/api.ErrBusy"], apart := false, laid := [("ferry/api.ErrRange", laid_ferry_api_ErrRange), ("ferry/api.ErrKind", laid_ferry_api_ErrKind), ("ferry/api.ErrPlan", laid_ferry_api_ErrPlan), ("ferry/api.ErrState", laid_ferry_api_ErrState), ("ferry/api.ErrSize", laid_ferry_api_ErrSize), ("ferry/api.ErrArg", laid_ferry_api_ErrArg), ("ferry/api.ErrBusy", laid_ferry_api_ErrBusy), ("ferry/api.ErrNone", laid_ferry_api_ErrNone)], narrowed := true }
def SysNamesUptoSaid : Prop := sysNamesUptoRow.holds Tryz.pinned (OpenSpec.upto sysNamesSpec)

end Rows
end Go.Proofs.YtgcjnpfidjfmmaaGreatDoor
