/-
  NARROWER THAN 'FOR EVERY INPUT', by the rows' own cells (each row's printed sentence says how): ReadyLends: laid · RunTells: laid · TextPrints: laid · ReadyKeeps: laid · TimerApart: laid.
  DERIVED. THE GIVEN ROWS OF THIS SEAT. 5 by the template 'for every input the law returns true; each argument reads behind the call as it read before'; 0 by the template 'total and deterministic' (their statements: YtoogammidjhfgaaDoorTotals.lean).
  GIVEN WITH THE SEED: the statements are not yours to turn. If you find one false, say at which input.
  Laid BY PROGRAM, IN A SANDBOX (cutbox-rows.mjs): the forced cells as the released guide's own fill.sh prints them over the translation c1bd6869ac62984e… (all of the seat's roots in one cut). By AI agents, Wed Nov 11 2026. No macro, syntax, notation, axiom, sorry.
-/
import Derived.Test.YtoogammidjhfgaaDoorChecked
import GoSem.Claim
import GoSem.ClaimJoined
import GoSem.ClaimMapViews
import Derived.JoinedTies
import Derived.KernelRfl
namespace Go.Proofs.YtoogammidjhfgaaDoor
/- THE CELL 'sum', in the pinned program and in every row, IS THE sha256 OF THE DUMP (.gsa) THAT YtoogammidjhfgaaDoorProg.lean LOADS. Nothing in Lean hashes anything: it is a label: what it is worth is what the hold of that sum in a sandbox is worth. -/
noncomputable def Tryd.pinned : Pinned := { name := "ytoogammidjhfgaadoor", sum := "c1bd6869ac62984e936efdd506e6bd86e36df03d35a6076f503209ceed0d6de9", checked := Tryd.checked }
namespace Rows
def none {H : Type} : Left H := { results := [], args := [] }

/- WHAT THE LISTED PACKAGE-LEVEL VARIABLES READ AS WHEN THE CALL BEGINS. Each datum BY PROGRAM (the guide's laid-datum.mjs) off the statement by which the dump's own 'gosem.cut.vars' lays the variable. In a bare row this is a premise. The card (YtoogammidjhfgaaDoorCards.lean) ties it to the program's text. -/
def laid_ferry_api_ErrState {H : Type} : DataW H := .iface "*errors.errorString" (.ptr (.agg [.lit (.string [116, 104, 101, 32, 115, 116, 97, 116, 101, 32, 98, 114, 101, 97, 107, 115, 32, 97, 32, 114, 117, 108, 101])]))
def laid_ferry_api_ErrArg {H : Type} : DataW H := .iface "*errors.errorString" (.ptr (.agg [.lit (.string [97, 32, 119, 114, 111, 110, 103, 32, 97, 114, 103, 117, 109, 101, 110, 116])]))
def laid_ferry_api_ErrNone {H : Type} : DataW H := .iface "*errors.errorString" (.ptr (.agg [.lit (.string [116, 104, 101, 114, 101, 32, 105, 115, 32, 110, 111, 110, 101])]))
def laid_math_bits_deBruijn32tab {H : Type} : DataW H := .agg [.lit (.int .u8 0), .lit (.int .u8 1), .lit (.int .u8 28), .lit (.int .u8 2), .lit (.int .u8 29), .lit (.int .u8 14), .lit (.int .u8 24), .lit (.int .u8 3), .lit (.int .u8 30), .lit (.int .u8 22), .lit (.int .u8 20), .lit (.int .u8 15), .lit (.int .u8 25), .lit (.int .u8 17), .lit (.int .u8 4), .lit (.int .u8 8), .lit (.int .u8 31), .lit (.int .u8 27), .lit (.int .u8 13), .lit (.int .u8 23), .lit (.int .u8 21), .lit (.int .u8 19), .lit (.int .u8 16), .lit (.int .u8 7), .lit (.int .u8 26), .lit (.int .u8 12), .lit (.int .u8 18), .lit (.int .u8 6), .lit (.int .u8 11), .lit (.int .u8 5), .lit (.int .u8 10), .lit (.int .u8 9)]
def laid_math_bits_deBruijn64tab {H : Type} : DataW H := .agg [.lit (.int .u8 0), .lit (.int .u8 1), .lit (.int .u8 56), .lit (.int .u8 2), .lit (.int .u8 57), .lit (.int .u8 49), .lit (.int .u8 28), .lit (.int .u8 3), .lit (.int .u8 61), .lit (.int .u8 58), .lit (.int .u8 42), .lit (.int .u8 50), .lit (.int .u8 38), .lit (.int .u8 29), .lit (.int .u8 17), .lit (.int .u8 4), .lit (.int .u8 62), .lit (.int .u8 47), .lit (.int .u8 59), .lit (.int .u8 36), .lit (.int .u8 45), .lit (.int .u8 43), .lit (.int .u8 51), .lit (.int .u8 22), .lit (.int .u8 53), .lit (.int .u8 39), .lit (.int .u8 33), .lit (.int .u8 30), .lit (.int .u8 24), .lit (.int .u8 18), .lit (.int .u8 12), .lit (.int .u8 5), .lit (.int .u8 63), .lit (.int .u8 55), .lit (.int .u8 48), .lit (.int .u8 27), .lit (.int .u8 60), .lit (.int .u8 41), .lit (.int .u8 37), .lit (.int .u8 16), .lit (.int .u8 46), .lit (.int .u8 35), .lit (.int .u8 44), .lit (.int .u8 21), .lit (.int .u8 52), .lit (.int .u8 32), .lit (.int .u8 23), .lit (.int .u8 11), .lit (.int .u8 54), .lit (.int .u8 26), .lit (.int .u8 40), .lit (.int .u8 15), .lit (.int .u8 34), .lit (.int .u8 20), .lit (.int .u8 31), .lit (.int .u8 10), .lit (.int .u8 25), .lit (.int .u8 14), .lit (.int .u8 19), .lit (.int .u8 9), .lit (.int .u8 13), .lit (.int .u8 8), .lit (.int .u8 7), .lit (.int .u8 6)]
def laid_internal_strconv_uint64pow10 {H : Type} : DataW H := .agg [.lit (.int .u64 1), .lit (.int .u64 10), .lit (.int .u64 100), .lit (.int .u64 1000), .lit (.int .u64 10000), .lit (.int .u64 100000), .lit (.int .u64 1000000), .lit (.int .u64 10000000), .lit (.int .u64 100000000), .lit (.int .u64 1000000000), .lit (.int .u64 10000000000), .lit (.int .u64 100000000000), .lit (.int .u64 1000000000000), .lit (.int .u64 10000000000000), .lit (.int .u64 100000000000000), .lit (.int .u64 1000000000000000), .lit (.int .u64 10000000000000000), .lit (.int .u64 100000000000000000), .lit (.int .u64 1000000000000000000), .lit (.int .u64 10000000000000000000)]
def laid_errors_errorType {H : Type} : DataW H := .iface "internal/reflectlite.rtype" (.agg [.ptr (.lit (.string [101, 114, 114, 111, 114]))])
def laid_ferry_api_ErrShort {H : Type} : DataW H := .iface "*errors.errorString" (.ptr (.agg [.lit (.string [116, 104, 101, 32, 98, 121, 116, 101, 115, 32, 101, 110, 100, 32, 116, 111, 111, 32, 101, 97, 114, 108, 121])]))
def laid_ferry_api_ErrRest {H : Type} : DataW H := .iface "*errors.errorString" (.ptr (.agg [.lit (.string [115, 111, 109, 101, 116, 104, 105, 110, 103, 32, 105, 115, 32, 108, 101, 102, 116, 32, 111, 118, 101, 114])]))
def laid_ferry_api_ErrTag {H : Type} : DataW H := .iface "*errors.errorString" (.ptr (.agg [.lit (.string [97, 110, 111, 116, 104, 101, 114, 32, 116, 97, 103, 32, 105, 115, 32, 119, 97, 110, 116, 101, 100])]))
def laid_ferry_api_ErrRange {H : Type} : DataW H := .iface "*errors.errorString" (.ptr (.agg [.lit (.string [97, 32, 110, 117, 109, 98, 101, 114, 32, 111, 117, 116, 32, 111, 102, 32, 105, 116, 115, 32, 114, 97, 110, 103, 101])]))
def laid_ferry_api_ErrLength {H : Type} : DataW H := .iface "*errors.errorString" (.ptr (.agg [.lit (.string [97, 32, 108, 101, 110, 103, 116, 104, 32, 116, 104, 97, 116, 32, 105, 115, 110, 39, 116, 32, 116, 104, 101, 32, 116, 104, 105, 110, 103, 39, 115])]))
def laid_ferry_api_ErrSum {H : Type} : DataW H := .iface "*errors.errorString" (.ptr (.agg [.lit (.string [116, 104, 101, 32, 99, 104, 101, 99, 107, 32, 115, 117, 109, 32, 105, 115, 32, 119, 114, 111, 110, 103])]))
def laid_ferry_api_ErrKind {H : Type} : DataW H := .iface "*errors.errorString" (.ptr (.agg [.lit (.string [110, 111, 32, 115, 117, 99, 104, 32, 107, 105, 110, 100])]))
def laid_ferry_api_ErrPlan {H : Type} : DataW H := .iface "*errors.errorString" (.ptr (.agg [.lit (.string [110, 111, 116, 32, 111, 102, 32, 116, 104, 105, 115, 32, 112, 108, 97, 110])]))
def laid_ferry_api_ErrBase {H : Type} : DataW H := .iface "*errors.errorString" (.ptr (.agg [.lit (.string [110, 111, 116, 32, 111, 118, 101, 114, 32, 116, 104, 105, 115, 32, 98, 97, 115, 101])]))
def laid_ferry_api_ErrSize {H : Type} : DataW H := .iface "*errors.errorString" (.ptr (.agg [.lit (.string [116, 111, 111, 32, 108, 97, 114, 103, 101])]))
def laid_ferry_api_ErrEnd {H : Type} : DataW H := .iface "*errors.errorString" (.ptr (.agg [.lit (.string [97, 32, 99, 111, 117, 110, 116, 101, 114, 32, 105, 115, 32, 97, 116, 32, 105, 116, 115, 32, 101, 110, 100])]))
def laid_ferry_api_ErrBusy {H : Type} : DataW H := .iface "*errors.errorString" (.ptr (.agg [.lit (.string [115, 111, 109, 101, 116, 104, 105, 110, 103, 32, 105, 115, 32, 117, 110, 100, 101, 114, 32, 119, 97, 121])]))
def laid_ferry_api_ErrDown {H : Type} : DataW H := .iface "*errors.errorString" (.ptr (.agg [.lit (.string [116, 104, 101, 32, 109, 111, 100, 117, 108, 101, 32, 105, 115, 32, 100, 111, 119, 110])]))
def laid_ferry_api_ErrLost {H : Type} : DataW H := .iface "*errors.errorString" (.ptr (.agg [.lit (.string [116, 104, 101, 32, 112, 97, 114, 116, 105, 116, 105, 111, 110, 32, 105, 115, 32, 108, 111, 115, 116])]))
def laid_ferry_api_ErrText {H : Type} : DataW H := .iface "*errors.errorString" (.ptr (.agg [.lit (.string [97, 32, 116, 101, 120, 116, 32, 116, 104, 97, 116, 32, 105, 115, 110, 39, 116, 32, 111, 102, 32, 116, 104, 101, 32, 108, 97, 110, 103, 117, 97, 103, 101])]))
def laid_ferry_api_ErrStop {H : Type} : DataW H := .iface "*errors.errorString" (.ptr (.agg [.lit (.string [99, 97, 110, 99, 101, 108, 108, 101, 100])]))
def laid_ferry_api_ErrDivide {H : Type} : DataW H := .iface "*errors.errorString" (.ptr (.agg [.lit (.string [100, 105, 118, 105, 115, 105, 111, 110, 32, 98, 121, 32, 122, 101, 114, 111])]))

/-- 'ferrylaw09.ReadyLends': WHATEVER THE INPUT: true; the input reads as it did. -/
def readyLendsSpec : ChangeSpec := { name := "readyLends", fn := fun _ => fun
  | [d1, d2] => { results := [.lit (.bool true)], args := [d1, d2] }
  | _ => none }
def readyLendsRow : OpenClaim := { program := "ytoogammidjhfgaadoor", sum := "c1bd6869ac62984e936efdd506e6bd86e36df03d35a6076f503209ceed0d6de9", func := "ferry/ferrylaw09.ReadyLends", spec := "readyLends", unfollowed := true, recurses := true, named := ["ferry/api.ErrState", "ferry/api.ErrNone", "ferry/api.ErrArg"], apart := false, laid := [("ferry/api.ErrState", laid_ferry_api_ErrState), ("ferry/api.ErrArg", laid_ferry_api_ErrArg), ("ferry/api.ErrNone", laid_ferry_api_ErrNone)] }
def ReadyLendsSaid : Prop := readyLendsRow.holds Tryd.pinned (OpenSpec.ofChange readyLendsSpec)

/-- ITS FALSE NEIGHBOUR: 'it returns false'. Refute it at one input. -/
def readyLendsWrong : ChangeSpec := { name := "readyLends", fn := fun _ => fun
  | [d1, d2] => { results := [.lit (.bool false)], args := [d1, d2] }
  | _ => none }
def ReadyLendsWrongFalsely : Prop := readyLendsRow.holds Tryd.pinned (OpenSpec.ofChange readyLendsWrong)

/-- 'ferrylaw27.RunTells': WHATEVER THE INPUT: true; the input reads as it did. -/
def runTellsSpec : ChangeSpec := { name := "runTells", fn := fun _ => fun
  | [d1, d2] => { results := [.lit (.bool true)], args := [d1, d2] }
  | _ => none }
def runTellsRow : OpenClaim := { program := "ytoogammidjhfgaadoor", sum := "c1bd6869ac62984e936efdd506e6bd86e36df03d35a6076f503209ceed0d6de9", func := "ferry/ferrylaw27.RunTells", spec := "runTells", inPlace := ["internal/abi.NoEscape"], named := ["internal/strconv.uint64pow10", "math/bits.deBruijn32tab", "math/bits.deBruijn64tab"], apart := false, laid := [("math/bits.deBruijn32tab", laid_math_bits_deBruijn32tab), ("math/bits.deBruijn64tab", laid_math_bits_deBruijn64tab), ("internal/strconv.uint64pow10", laid_internal_strconv_uint64pow10)] }
def RunTellsSaid : Prop := runTellsRow.holds Tryd.pinned (OpenSpec.ofChange runTellsSpec)

/-- ITS FALSE NEIGHBOUR: 'it returns false'. Refute it at one input. -/
def runTellsWrong : ChangeSpec := { name := "runTells", fn := fun _ => fun
  | [d1, d2] => { results := [.lit (.bool false)], args := [d1, d2] }
  | _ => none }
def RunTellsWrongFalsely : Prop := runTellsRow.holds Tryd.pinned (OpenSpec.ofChange runTellsWrong)

/-- 'ferrylaw25.TextPrints': WHATEVER THE INPUT: true; the input reads as it did. -/
def textPrintsSpec : ChangeSpec := { name := "textPrints", fn := fun _ => fun
  | [d] => { results := [.lit (.bool true)], args := [d] }
  | _ => none }
def textPrintsRow : OpenClaim := { program := "ytoogammidjhfgaadoor", sum := "c1bd6869ac62984e936efdd506e6bd86e36df03d35a6076f503209ceed0d6de9", func := "ferry/ferrylaw25.TextPrints", spec := "textPrints", inPlace := ["internal/abi.NoEscape", "internal/bytealg.MakeNoZero", "internal/reflectlite.TypeOf", "internal/reflectlite.ValueOf", "(internal/reflectlite.Value).Type", "(internal/reflectlite.Value).IsNil", "(internal/reflectlite.Value).Elem", "(internal/reflectlite.Value).Set"], unfollowed := true, recurses := true, named := ["ferry/api.ErrArg", "internal/strconv.uint64pow10", "math/bits.deBruijn32tab", "math/bits.deBruijn64tab", "ferry/api.ErrShort", "ferry/api.ErrRest", "ferry/api.ErrTag", "ferry/api.ErrRange", "ferry/api.ErrLength", "ferry/api.ErrSum", "ferry/api.ErrKind", "ferry/api.ErrPlan", "ferry/api.ErrState", "ferry/api.ErrBase", "ferry/api.ErrSize", "ferry/api.ErrEnd", "ferry/api.ErrBusy", "ferry/api.ErrDown", "ferry/api.ErrLost", "ferry/api.ErrNone", "ferry/api.ErrText", "ferry/api.ErrStop", "ferry/api.ErrDivide", "errors.errorType"], apart := false, laid := [("math/bits.deBruijn32tab", laid_math_bits_deBruijn32tab), ("math/bits.deBruijn64tab", laid_math_bits_deBruijn64tab), ("internal/strconv.uint64pow10", laid_internal_strconv_uint64pow10), ("errors.errorType", laid_errors_errorType), ("ferry/api.ErrShort", laid_ferry_api_ErrShort), ("ferry/api.ErrRest", laid_ferry_api_ErrRest), ("ferry/api.ErrTag", laid_ferry_api_ErrTag), ("ferry/api.ErrRange", laid_ferry_api_ErrRange), ("ferry/api.ErrLength", laid_ferry_api_ErrLength), ("ferry/api.ErrSum", laid_ferry_api_ErrSum), ("ferry/api.ErrKind", laid_ferry_api_ErrKind), ("ferry/api.ErrPlan", laid_ferry_api_ErrPlan), ("ferry/api.ErrState", laid_ferry_api_ErrState), ("ferry/api.ErrBase", laid_ferry_api_ErrBase), ("ferry/api.ErrSize", laid_ferry_api_ErrSize), ("ferry/api.ErrArg", laid_ferry_api_ErrArg), ("ferry/api.ErrEnd", laid_ferry_api_ErrEnd), ("ferry/api.ErrBusy", laid_ferry_api_ErrBusy), ("ferry/api.ErrDown", laid_ferry_api_ErrDown), ("ferry/api.ErrLost", laid_ferry_api_ErrLost), ("ferry/api.ErrNone", laid_ferry_api_ErrNone), ("ferry/api.ErrText", laid_ferry_api_ErrText), ("ferry/api.ErrStop", laid_ferry_api_ErrStop), ("ferry/api.ErrDivide", laid_ferry_api_ErrDivide)] }
def TextPrintsSaid : Prop := textPrintsRow.holds Tryd.pinned (OpenSpec.ofChange textPrintsSpec)

/-- ITS FALSE NEIGHBOUR: 'it returns false'. Refute it at one input. -/
def textPrintsWrong : ChangeSpec := { name := "textPrints", fn := fun _ => fun
  | [d] => { results := [.lit (.bool false)], args := [d] }
  | _ => none }
def TextPrintsWrongFalsely : Prop := textPrintsRow.holds Tryd.pinned (OpenSpec.ofChange textPrintsWrong)

/-- 'ferrylaw09.ReadyKeeps': WHATEVER THE INPUT: true; the input reads as it did. -/
def readyKeepsSpec : ChangeSpec := { name := "readyKeeps", fn := fun _ => fun
  | [d] => { results := [.lit (.bool true)], args := [d] }
  | _ => none }
def readyKeepsRow : OpenClaim := { program := "ytoogammidjhfgaadoor", sum := "c1bd6869ac62984e936efdd506e6bd86e36df03d35a6076f503209ceed0d6de9", func := "ferry/ferrylaw09.ReadyKeeps", spec := "readyKeeps", unfollowed := true, recurses := true, named := ["ferry/api.ErrState", "ferry/api.ErrNone", "ferry/api.ErrArg"], apart := false, laid := [("ferry/api.ErrState", laid_ferry_api_ErrState), ("ferry/api.ErrArg", laid_ferry_api_ErrArg), ("ferry/api.ErrNone", laid_ferry_api_ErrNone)] }
def ReadyKeepsSaid : Prop := readyKeepsRow.holds Tryd.pinned (OpenSpec.ofChange readyKeepsSpec)

/-- ITS FALSE NEIGHBOUR: 'it returns false'. Refute it at one input. -/
def readyKeepsWrong : ChangeSpec := { name := "readyKeeps", fn := fun _ => fun
  | [d] => { results := [.lit (.bool false)], args := [d] }
  | _ => none }
def ReadyKeepsWrongFalsely : Prop := readyKeepsRow.holds Tryd.pinned (OpenSpec.ofChange readyKeepsWrong)

/-- 'ferrylaw08.TimerApart': WHATEVER THE INPUT: true; the input reads as it did. -/
def timerApartSpec : ChangeSpec := { name := "timerApart", fn := fun _ => fun
  | [d1, d2] => { results := [.lit (.bool true)], args := [d1, d2] }
  | _ => none }
def timerApartRow : OpenClaim := { program := "ytoogammidjhfgaadoor", sum := "c1bd6869ac62984e936efdd506e6bd86e36df03d35a6076f503209ceed0d6de9", func := "ferry/ferrylaw08.TimerApart", spec := "timerApart", inPlace := ["internal/reflectlite.ValueOf", "(internal/reflectlite.Value).Type", "(internal/reflectlite.Value).IsNil", "internal/reflectlite.TypeOf", "(internal/reflectlite.Value).Elem", "(internal/reflectlite.Value).Set"], unfollowed := true, recurses := true, named := ["ferry/api.ErrState", "ferry/api.ErrArg", "ferry/api.ErrRange", "errors.errorType", "ferry/api.ErrShort", "ferry/api.ErrRest", "ferry/api.ErrTag", "ferry/api.ErrLength", "ferry/api.ErrSum", "ferry/api.ErrKind", "ferry/api.ErrPlan", "ferry/api.ErrBase", "ferry/api.ErrSize", "ferry/api.ErrEnd", "ferry/api.ErrBusy", "ferry/api.ErrDown", "ferry/api.ErrLost", "ferry/api.ErrNone", "ferry/api.ErrText", "ferry/api.ErrStop", "ferry/api.ErrDivide"], apart := false, laid := [("errors.errorType", laid_errors_errorType), ("ferry/api.ErrShort", laid_ferry_api_ErrShort), ("ferry/api.ErrRest", laid_ferry_api_ErrRest), ("ferry/api.ErrTag", laid_ferry_api_ErrTag), ("ferry/api.ErrRange", laid_ferry_api_ErrRange), ("ferry/api.ErrLength", laid_ferry_api_ErrLength), ("ferry/api.ErrSum", laid_ferry_api_ErrSum), ("ferry/api.ErrKind", laid_ferry_api_ErrKind), ("ferry/api.ErrPlan", laid_ferry_api_ErrPlan), ("ferry/api.ErrState", laid_ferry_api_ErrState), ("ferry/api.ErrBase", laid_ferry_api_ErrBase), ("ferry/api.ErrSize", laid_ferry_api_ErrSize), ("ferry/api.ErrArg", laid_ferry_api_ErrArg), ("ferry/api.ErrEnd", laid_ferry_api_ErrEnd), ("ferry/api.ErrBusy", laid_ferry_api_ErrBusy), ("ferry/api.ErrDown", laid_ferry_api_ErrDown), ("ferry/api.ErrLost", laid_ferry_api_ErrLost), ("ferry/api.ErrNone", laid_ferry_api_ErrNone), ("ferry/api.ErrText", laid_ferry_api_ErrText), ("ferry/api.ErrStop", laid_ferry_api_ErrStop), ("ferry/api.ErrDivide", laid_ferry_api_ErrDivide)] }
def TimerApartSaid : Prop := timerApartRow.holds Tryd.pinned (OpenSpec.ofChange timerApartSpec)

/-- ITS FALSE NEIGHBOUR: 'it returns false'. Refute it at one input. -/
def timerApartWrong : ChangeSpec := { name := "timerApart", fn := fun _ => fun
  | [d1, d2] => { results := [.lit (.bool false)], args := [d1, d2] }
  | _ => none }
def TimerApartWrongFalsely : Prop := timerApartRow.holds Tryd.pinned (OpenSpec.ofChange timerApartWrong)

/- THE SECOND FORM. 'bulk': how many values and letters a reading holds, each counted each time it is reached (what is shared counts as often as it is met; a slice's spare places count too). A statement '..UptoSaid' is the law's where the arguments, and the package variables that the reading takes, are together of bulk at most 1048576: NARROWER than '..Said'. Prove '..Said' where nothing that the law and all that it calls make is longer than what came in: it says more and counts as full. Else prove '..UptoSaid'. A law counts once. -/
mutual
def uptoBulk {H : Type} : DataW H → Nat
  | .lit (.string bytes) => bytes.length + 1
  | .lit _ => 1
  | .nil => 1
  | .ptr d => uptoBulk d + 1
  | .slice elems spare => uptoBulkAll elems + uptoBulkAll spare + 1
  | .agg parts => uptoBulkAll parts + 1
  | .iface _ d => uptoBulk d + 1
  | .map entries => uptoBulkEntries entries + 1
  | .held _ => 1
def uptoBulkAll {H : Type} : List (DataW H) → Nat
  | [] => 0
  | d :: r => uptoBulk d + uptoBulkAll r
def uptoBulkEntries {H : Type} : List (Lit × DataW H) → Nat
  | [] => 0
  | x :: r => uptoBulkEntry x + uptoBulkEntries r
def uptoBulkEntry {H : Type} : Lit × DataW H → Nat
  | (.string bytes, d) => bytes.length + uptoBulk d + 1
  | (_, d) => uptoBulk d + 1
 end
def uptoSmall : (H : Type) → List (DataW H) → Bool := fun _ ds => decide (uptoBulkAll ds ≤ 1048576)
def OpenSpec.upto (s : _root_.Go.ChangeSpec) : _root_.Go.OpenSpec := { _root_.Go.OpenSpec.ofChange s with cond := some uptoSmall }

/-- 'ferrylaw09.ReadyLends', WHERE WHAT IT READS IS OF BULK AT MOST 1048576: true; the input reads as it did. -/
def readyLendsUptoRow : OpenClaim := { program := "ytoogammidjhfgaadoor", sum := "c1bd6869ac62984e936efdd506e6bd86e36df03d35a6076f503209ceed0d6de9", func := "ferry/ferrylaw09.ReadyLends", spec := "readyLends", unfollowed := true, recurses := true, named := ["ferry/api.ErrState", "ferry/api.ErrNone", "ferry/api.ErrArg"], apart := false, laid := [("ferry/api.ErrState", laid_ferry_api_ErrState), ("ferry/api.ErrArg", laid_ferry_api_ErrArg), ("ferry/api.ErrNone", laid_ferry_api_ErrNone)], narrowed := true }
def ReadyLendsUptoSaid : Prop := readyLendsUptoRow.holds Tryd.pinned (OpenSpec.upto readyLendsSpec)

/-- 'ferrylaw27.RunTells', WHERE WHAT IT READS IS OF BULK AT MOST 1048576: true; the input reads as it did. -/
def runTellsUptoRow : OpenClaim := { program := "ytoogammidjhfgaadoor", sum := "c1bd6869ac62984e936efdd506e6bd86e36df03d35a6076f503209ceed0d6de9", func := "ferry/ferrylaw27.RunTells", spec := "runTells", inPlace := ["internal/abi.NoEscape"], named := ["internal/strconv.uint64pow10", "math/bits.deBruijn32tab", "math/bits.deBruijn64tab"], apart := false, laid := [("math/bits.deBruijn32tab", laid_math_bits_deBruijn32tab), ("math/bits.deBruijn64tab", laid_math_bits_deBruijn64tab), ("internal/strconv.uint64pow10", laid_internal_strconv_uint64pow10)], narrowed := true }
def RunTellsUptoSaid : Prop := runTellsUptoRow.holds Tryd.pinned (OpenSpec.upto runTellsSpec)

/-- 'ferrylaw25.TextPrints', WHERE WHAT IT READS IS OF BULK AT MOST 1048576: true; the input reads as it did. -/
def textPrintsUptoRow : OpenClaim := { program := "ytoogammidjhfgaadoor", sum := "c1bd6869ac62984e936efdd506e6bd86e36df03d35a6076f503209ceed0d6de9", func := "ferry/ferrylaw25.TextPrints", spec := "textPrints", inPlace := ["internal/abi.NoEscape", "internal/bytealg.MakeNoZero", "internal/reflectlite.TypeOf", "internal/reflectlite.ValueOf", "(internal/reflectlite.Value).Type", "(internal/reflectlite.Value).IsNil", "(internal/reflectlite.Value).Elem", "(internal/reflectlite.Value).Set"], unfollowed := true, recurses := true, named := ["ferry/api.ErrArg", "internal/strconv.uint64pow10", "math/bits.deBruijn32tab", "math/bits.deBruijn64tab", "ferry/api.ErrShort", "ferry/api.ErrRest", "ferry/api.ErrTag", "ferry/api.ErrRange", "ferry/api.ErrLength", "ferry/api.ErrSum", "ferry/api.ErrKind", "ferry/api.ErrPlan", "ferry/api.ErrState", "ferry/api.ErrBase", "ferry/api.ErrSize", "ferry/api.ErrEnd", "ferry/api.ErrBusy", "ferry/api.ErrDown", "ferry/api.ErrLost", "ferry/api.ErrNone", "ferry/api.ErrText", "ferry/api.ErrStop", "ferry/api.ErrDivide", "errors.errorType"], apart := false, laid := [("math/bits.deBruijn32tab", laid_math_bits_deBruijn32tab), ("math/bits.deBruijn64tab", laid_math_bits_deBruijn64tab), ("internal/strconv.uint64pow10", laid_internal_strconv_uint64pow10), ("errors.errorType", laid_errors_errorType), ("ferry/api.ErrShort", laid_ferry_api_ErrShort), ("ferry/api.ErrRest", laid_ferry_api_ErrRest), ("ferry/api.ErrTag", laid_ferry_api_ErrTag), ("ferry/api.ErrRange", laid_ferry_api_ErrRange), ("ferry/api.ErrLength", laid_ferry_api_ErrLength), ("ferry/api.ErrSum", laid_ferry_api_ErrSum), ("ferry/api.ErrKind", laid_ferry_api_ErrKind), ("ferry/api.ErrPlan", laid_ferry_api_ErrPlan), ("ferry/api.ErrState", laid_ferry_api_ErrState), ("ferry/api.ErrBase", laid_ferry_api_ErrBase), ("ferry/api.ErrSize", laid_ferry_api_ErrSize), ("ferry/api.ErrArg", laid_ferry_api_ErrArg), ("ferry/api.ErrEnd", laid_ferry_api_ErrEnd), ("ferry/api.ErrBusy", laid_ferry_api_ErrBusy), ("ferry/api.ErrDown", laid_ferry_api_ErrDown), ("ferry/api.ErrLost", laid_ferry_api_ErrLost), ("ferry/api.ErrNone", laid_ferry_api_ErrNone), ("ferry/api.ErrText", laid_ferry_api_ErrText), ("ferry/api.ErrStop", laid_ferry_api_ErrStop), ("ferry/api.ErrDivide", laid_ferry_api_ErrDivide)], narrowed := true }
def TextPrintsUptoSaid : Prop := textPrintsUptoRow.holds Tryd.pinned (OpenSpec.upto textPrintsSpec)

/-- 'ferrylaw09.ReadyKeeps', WHERE WHAT IT READS IS OF BULK AT MOST 1048576: true; the input reads as it did. -/
def readyKeepsUptoRow : OpenClaim := { program := "ytoogammidjhfgaadoor", sum := "c1bd6869ac62984e936efdd506e6bd86e36df03d35a6076f503209ceed0d6de9", func := "ferry/ferrylaw09.ReadyKeeps", spec := "readyKeeps", unfollowed := true, recurses := true, named := ["ferry/api.ErrState", "ferry/api.ErrNone", "ferry/api.ErrArg"], apart := false, laid := [("ferry/api.ErrState", laid_ferry_api_ErrState), ("ferry/api.ErrArg", laid_ferry_api_ErrArg), ("ferry/api.ErrNone", laid_ferry_api_ErrNone)], narrowed := true }
def ReadyKeepsUptoSaid : Prop := readyKeepsUptoRow.holds Tryd.pinned (OpenSpec.upto readyKeepsSpec)

/-- 'ferrylaw08.TimerApart', WHERE WHAT IT READS IS OF BULK AT MOST 1048576: true; the input reads as it did. -/
def timerApartUptoRow : OpenClaim := { program := "ytoogammidjhfgaadoor", sum := "c1bd6869ac62984e936efdd506e6bd86e36df03d35a6076f503209ceed0d6de9", func := "ferry/ferrylaw08.TimerApart", spec := "timerApart", inPlace := ["internal/reflectlite.ValueOf", "(internal/reflectlite.Value).Type", "(internal/reflectlite.Value).IsNil", "internal/reflectlite.TypeOf", "(internal/reflectlite.Value).Elem", "(internal/reflectlite.Value).Set"], unfollowed := true, recurses := true, named := ["ferry/api.ErrState", "ferry/api.ErrArg", "ferry/api.ErrRange", "errors.errorType", "ferry/api.ErrShort", "ferry/api.ErrRest", "ferry/api.ErrTag", "ferry/api.ErrLength", "ferry/api.ErrSum", "ferry/api.ErrKind", "ferry/api.ErrPlan", "ferry/api.ErrBase", "ferry/api.ErrSize", "ferry/api.ErrEnd", "ferry/api.ErrBusy", "ferry/api.ErrDown", "ferry/api.ErrLost", "ferry/api.ErrNone", "ferry/api.ErrText", "ferry/api.ErrStop", "ferry/api.ErrDivide"], apart := false, laid := [("errors.errorType", laid_errors_errorType), ("ferry/api.ErrShort", laid_ferry_api_ErrShort), ("ferry/api.ErrRest", laid_ferry_api_ErrRest), ("ferry/api.ErrTag", laid_ferry_api_ErrTag), ("ferry/api.ErrRange", laid_ferry_api_ErrRange), ("ferry/api.ErrLength", laid_ferry_api_ErrLength), ("ferry/api.ErrSum", laid_ferry_api_ErrSum), ("ferry/api.ErrKind", laid_ferry_api_ErrKind), ("ferry/api.ErrPlan", laid_ferry_api_ErrPlan), ("ferry/api.ErrState", laid_ferry_api_ErrState), ("ferry/api.ErrBase", laid_ferry_api_ErrBase), ("ferry/api.ErrSize", laid_ferry_api_ErrSize), ("ferry/api.ErrArg", laid_ferry_api_ErrArg), ("ferry/api.ErrEnd", laid_ferry_api_ErrEnd), ("ferry/api.ErrBusy", laid_ferry_api_ErrBusy), ("ferry/api.ErrDown", laid_ferry_api_ErrDown), ("ferry/api.ErrLost", laid_ferry_api_ErrLost), ("ferry/api.ErrNone", laid_ferry_api_ErrNone), ("ferry/api.ErrText", laid_ferry_api_ErrText), ("ferry/api.ErrStop", laid_ferry_api_ErrStop), ("ferry/api.ErrDivide", laid_ferry_api_ErrDivide)], narrowed := true }
def TimerApartUptoSaid : Prop := timerApartUptoRow.holds Tryd.pinned (OpenSpec.upto timerApartSpec)

end Rows
end Go.Proofs.YtoogammidjhfgaaDoor
