/-
  NARROWER THAN 'FOR EVERY INPUT', by the rows' own cells (each row's printed sentence says how): ReadyTurns: laid · RunWords: laid · ReadyStates: laid · ReadyLends: laid · RunTells: laid · ReadyFires: laid · ReadyForms: laid · ReadyWakes: laid · TimerSteps: laid · TimerOne: laid · TimerRelative: laid · ReadyBlocks: laid.
  DERIVED. THE GIVEN ROWS OF THIS SEAT. 12 by the template 'for every input the law returns true; each argument reads behind the call as it read before'; 0 by the template 'total and deterministic' (their statements: YtjjiphigolegbaaDoorTotals.lean).
  GIVEN WITH THE SEED: the statements are not yours to turn. If you find one false, say at which input.
  Laid BY PROGRAM, IN A SANDBOX (cutbox-rows.mjs): the forced cells as the released guide's own fill.sh prints them over the translation ea671041a302889a… (all of the seat's roots in one cut). By AI agents, Wed Nov 11 2026. No macro, syntax, notation, axiom, sorry.
-/
import Derived.Test.YtjjiphigolegbaaDoorChecked
import GoSem.Claim
import GoSem.ClaimJoined
import GoSem.ClaimMapViews
import Derived.JoinedTies
import Derived.KernelRfl
namespace Go.Proofs.YtjjiphigolegbaaDoor
/- THE CELL 'sum', in the pinned program and in every row, IS THE sha256 OF THE DUMP (.gsa) THAT YtjjiphigolegbaaDoorProg.lean LOADS. Nothing in Lean hashes anything: it is a label: what it is worth is what the hold of that sum in a sandbox is worth. -/
noncomputable def Tryd.pinned : Pinned := { name := "ytjjiphigolegbaadoor", sum := "ea671041a302889a420dd1600676fd7d955cd546d7f233fab70c30437ca73c74", checked := Tryd.checked }
namespace Rows
def none {H : Type} : Left H := { results := [], args := [] }

/- WHAT THE LISTED PACKAGE-LEVEL VARIABLES READ AS WHEN THE CALL BEGINS. Each datum BY PROGRAM (the guide's laid-datum.mjs) off the statement by which the dump's own 'gosem.cut.vars' lays the variable. In a bare row this is a premise. The card (YtjjiphigolegbaaDoorCards.lean) ties it to the program's text. -/
def laid_ferry_api_ErrState {H : Type} : DataW H := .iface "*errors.errorString" (.ptr (.agg [.lit (.string [116, 104, 101, 32, 115, 116, 97, 116, 101, 32, 98, 114, 101, 97, 107, 115, 32, 97, 32, 114, 117, 108, 101])]))
def laid_ferry_api_ErrArg {H : Type} : DataW H := .iface "*errors.errorString" (.ptr (.agg [.lit (.string [97, 32, 119, 114, 111, 110, 103, 32, 97, 114, 103, 117, 109, 101, 110, 116])]))
def laid_ferry_api_ErrNone {H : Type} : DataW H := .iface "*errors.errorString" (.ptr (.agg [.lit (.string [116, 104, 101, 114, 101, 32, 105, 115, 32, 110, 111, 110, 101])]))
def laid_math_bits_deBruijn32tab {H : Type} : DataW H := .agg [.lit (.int .u8 0), .lit (.int .u8 1), .lit (.int .u8 28), .lit (.int .u8 2), .lit (.int .u8 29), .lit (.int .u8 14), .lit (.int .u8 24), .lit (.int .u8 3), .lit (.int .u8 30), .lit (.int .u8 22), .lit (.int .u8 20), .lit (.int .u8 15), .lit (.int .u8 25), .lit (.int .u8 17), .lit (.int .u8 4), .lit (.int .u8 8), .lit (.int .u8 31), .lit (.int .u8 27), .lit (.int .u8 13), .lit (.int .u8 23), .lit (.int .u8 21), .lit (.int .u8 19), .lit (.int .u8 16), .lit (.int .u8 7), .lit (.int .u8 26), .lit (.int .u8 12), .lit (.int .u8 18), .lit (.int .u8 6), .lit (.int .u8 11), .lit (.int .u8 5), .lit (.int .u8 10), .lit (.int .u8 9)]
def laid_math_bits_deBruijn64tab {H : Type} : DataW H := .agg [.lit (.int .u8 0), .lit (.int .u8 1), .lit (.int .u8 56), .lit (.int .u8 2), .lit (.int .u8 57), .lit (.int .u8 49), .lit (.int .u8 28), .lit (.int .u8 3), .lit (.int .u8 61), .lit (.int .u8 58), .lit (.int .u8 42), .lit (.int .u8 50), .lit (.int .u8 38), .lit (.int .u8 29), .lit (.int .u8 17), .lit (.int .u8 4), .lit (.int .u8 62), .lit (.int .u8 47), .lit (.int .u8 59), .lit (.int .u8 36), .lit (.int .u8 45), .lit (.int .u8 43), .lit (.int .u8 51), .lit (.int .u8 22), .lit (.int .u8 53), .lit (.int .u8 39), .lit (.int .u8 33), .lit (.int .u8 30), .lit (.int .u8 24), .lit (.int .u8 18), .lit (.int .u8 12), .lit (.int .u8 5), .lit (.int .u8 63), .lit (.int .u8 55), .lit (.int .u8 48), .lit (.int .u8 27), .lit (.int .u8 60), .lit (.int .u8 41), .lit (.int .u8 37), .lit (.int .u8 16), .lit (.int .u8 46), .lit (.int .u8 35), .lit (.int .u8 44), .lit (.int .u8 21), .lit (.int .u8 52), .lit (.int .u8 32), .lit (.int .u8 23), .lit (.int .u8 11), .lit (.int .u8 54), .lit (.int .u8 26), .lit (.int .u8 40), .lit (.int .u8 15), .lit (.int .u8 34), .lit (.int .u8 20), .lit (.int .u8 31), .lit (.int .u8 10), .lit (.int .u8 25), .lit (.int .u8 14), .lit (.int .u8 19), .lit (.int .u8 9), .lit (.int .u8 13), .lit (.int .u8 8), .lit (.int .u8 7), .lit (.int .u8 6)]
def laid_internal_strconv_uint64pow10 {H : Type} : DataW H := .agg [.lit (.int .u64 1), .lit (.int .u64 10), .lit (.int .u64 100), .lit (.int .u64 1000), .lit (.int .u64 10000), .lit (.int .u64 100000), .lit (.int .u64 1000000), .lit (.int .u64 10000000), .lit (.int .u64 100000000), .lit (.int .u64 1000000000), .lit (.int .u64 10000000000), .lit (.int .u64 100000000000), .lit (.int .u64 1000000000000), .lit (.int .u64 10000000000000), .lit (.int .u64 100000000000000), .lit (.int .u64 1000000000000000), .lit (.int .u64 10000000000000000), .lit (.int .u64 100000000000000000), .lit (.int .u64 1000000000000000000), .lit (.int .u64 10000000000000000000)]
def laid_errors_errorType {H : Type} : DataW H := .iface "internal/reflectlite.rtype" (.agg [.ptr (.lit (.string [101, 114, 114, 111, 114]))])
def laid_ferry_api_ErrShort {H : Type} : DataW H := .iface "*errors.errorString" (.ptr (.agg [.lit (.string [116, 104, 101, 32, 98, 121, 116, 101, 115, 32, 101, 110, 100, 32, 116, 111, 111, 32, 101, 97, 114, 108, 121])]))
def laid_ferry_api_ErrRest {H : Type} : DataW H := .iface "*errors.errorString" (.ptr (.agg [.lit (.string [115, 111, 109, 101, 116, 104, 105, 110, 103, 32, 105, 115, 32, 108, 101, 102, 116, 32, 111, 118, 101, 114])]))
def laid_ferry_api_ErrTag {H : Type} : DataW H := .iface "*errors.errorString" (.ptr (.agg [.lit (.string [97, 110, 111, 116, 104, 101, 114, 32, 116, 97, 103, 32, 105, 115, 32, 119, 97, 110, 116, 101, 100])]))
def laid_ferry_api_ErrRange {H : Type} : DataW H := .iface "*errors.errorString" (.ptr (.agg [.lit (.string [97, 32, 110, 117, 109, 98, 101, 114, 32, 111, 117, 116, 32, 111, 102, 32, 105, 116, 115, 32, 114, 97, 110, 103, 101])]))
def laid_ferry_api_ErrLength {H : Type} : DataW H := .iface "*errors.errorString" (.ptr (.agg [.lit (.string [97, 32, 108, 101, 110, 103, 116, 104, 32, 116, 104, 97, 116, 32, 105, 115, 110, 39, 116, 32, 116, 104, 101, 32, 116, 104, 105, 110, 103, 39, 115])]))
def laid_ferry_api_ErrSum {H : Type} : DataW H := .iface "*errors.errorString" (.ptr (.agg [.lit (.string [116, 104, 101, 32, 99, 104, 101, 99, 107, 32, 115, 117, 109, 32, 105, 115, 32, 119, 114, 111, 110, 103])]))
def laid_ferry_api_ErrKind {H : Type} : DataW H := .iface "*errors.errorString" (.ptr (.agg [.lit (.string [110, 111, 32, 115, 117, 99, 104, 32, 107, 105, 110, 100])]))
def laid_ferry_api_ErrPlan {H : Type} : DataW H := .iface "*errors.errorString" (.ptr (.agg [.lit (.string [110, 111, 116, 32, 111, 102, 32, 116, 104, 105, 115, 32, 112, 108, 97, 110])]))
def laid_ferry_api_ErrBase {H : Type} : DataW H := .iface "*errors.errorString" (.ptr (.agg [.lit (.string [110, 111, 116, 32, 111, 118, 101, 114, 32, 116, 104, 105, 115, 32, 98, 97, 115, 101])]))
def laid_ferry_api_ErrSize {H : Type} : DataW H := .iface "*errors.errorString" (.ptr (.agg [.lit (.string [116, 111, 111, 32, 108, 97, 114, 103, 101])]))
def laid_ferry_api_ErrEnd {H : Type} : DataW H := .iface "*errors.errorString" (.ptr (.agg [.lit (.string [97, 32, 99, 111, 117, 110, 116, 101, 114, 32, 105, 115, 32, 97, 116, 32, 105, 116, 115, 32, 101, 110, 100])]))
def laid_ferry_api_ErrBusy {H : Type} : DataW H := .iface "*errors.errorString" (.ptr (.agg [.lit (.string [115, 111, 109, 101, 116, 104, 105, 110, 103, 32, 105, 115, 32, 117, 110, 100, 101, 114, 32, 119, 97, 121])]))
def laid_ferry_api_ErrDown {H : Type} : DataW H := .iface "*errors.errorString" (.ptr (.agg [.lit (.string [116, 104, 101, 32, 109, 111, 100, 117, 108, 101, 32, 105, 115, 32, 100, 111, 119, 110])]))
def laid_ferry_api_ErrLost {H : Type} : DataW H := .iface "*errors.errorString" (.ptr (.agg [.lit (.string [116, 104, 101, 32, 112, 97, 114, 116, 105, 116, 105, 111, 110, 32, 105, 115, 32, 108, 111, 115, 116])]))
def laid_ferry_api_ErrText {H : Type} : DataW H := .iface "*errors.errorString" (.ptr (.agg [.lit (.string [97, 32, 116, 101, 120, 116, 32, 116, 104, 97, 116, 32, 105, 115, 110, 39, 116, 32, 111, 102, 32, 116, 104, 101, 32, 108, 97, 110, 103, 117, 97, 103, 101])]))
def laid_ferry_api_ErrStop {H : Type} : DataW H := .iface "*errors.errorString" (.ptr (.agg [.lit (.string [99, 97, 110, 99, 101, 108, 108, 101, 100])]))
def laid_ferry_api_ErrDivide {H : Type} : DataW H := .iface "*errors.errorString" (.ptr (.agg [.lit (.string [100, 105, 118, 105, 115, 105, 111, 110, 32, 98, 121, 32, 122, 101, 114, 111])]))

/-- 'ferrylaw09.ReadyTurns': WHATEVER THE INPUT: true; the input reads as it did. -/
def readyTurnsSpec : ChangeSpec := { name := "readyTurns", fn := fun _ => fun
  | [d] => { results := [.lit (.bool true)], args := [d] }
  | _ => none }
def readyTurnsRow : OpenClaim := { program := "ytjjiphigolegbaadoor", sum := "ea671041a302889a420dd1600676fd7d955cd546d7f233fab70c30437ca73c74", func := "ferry/ferrylaw09.ReadyTurns", spec := "readyTurns", unfollowed := true, recurses := true, named := ["ferry/api.ErrState", "ferry/api.ErrNone", "ferry/api.ErrArg"], apart := false, laid := [("ferry/api.ErrState", laid_ferry_api_ErrState), ("ferry/api.ErrArg", laid_ferry_api_ErrArg), ("ferry/api.ErrNone", laid_ferry_api_ErrNone)] }
def ReadyTurnsSaid : Prop := readyTurnsRow.holds Tryd.pinned (OpenSpec.ofChange readyTurnsSpec)

/-- ITS FALSE NEIGHBOUR: 'it returns false'. Refute it at one input. -/
def readyTurnsWrong : ChangeSpec := { name := "readyTurns", fn := fun _ => fun
  | [d] => { results := [.lit (.bool false)], args := [d] }
  | _ => none }
def ReadyTurnsWrongFalsely : Prop := readyTurnsRow.holds Tryd.pinned (OpenSpec.ofChange readyTurnsWrong)

/-- 'ferrylaw27.RunWords': WHATEVER THE INPUT: true; the input reads as it did. -/
def runWordsSpec : ChangeSpec := { name := "runWords", fn := fun _ => fun
  | [d] => { results := [.lit (.bool true)], args := [d] }
  | _ => none }
def runWordsRow : OpenClaim := { program := "ytjjiphigolegbaadoor", sum := "ea671041a302889a420dd1600676fd7d955cd546d7f233fab70c30437ca73c74", func := "ferry/ferrylaw27.RunWords", spec := "runWords", named := ["internal/strconv.uint64pow10", "math/bits.deBruijn32tab", "math/bits.deBruijn64tab"], apart := false, laid := [("math/bits.deBruijn32tab", laid_math_bits_deBruijn32tab), ("math/bits.deBruijn64tab", laid_math_bits_deBruijn64tab), ("internal/strconv.uint64pow10", laid_internal_strconv_uint64pow10)] }
def RunWordsSaid : Prop := runWordsRow.holds Tryd.pinned (OpenSpec.ofChange runWordsSpec)

/-- ITS FALSE NEIGHBOUR: 'it returns false'. Refute it at one input. -/
def runWordsWrong : ChangeSpec := { name := "runWords", fn := fun _ => fun
  | [d] => { results := [.lit (.bool false)], args := [d] }
  | _ => none }
def RunWordsWrongFalsely : Prop := runWordsRow.holds Tryd.pinned (OpenSpec.ofChange runWordsWrong)

/-- 'ferrylaw09.ReadyStates': WHATEVER THE INPUT: true; the input reads as it did. -/
def readyStatesSpec : ChangeSpec := { name := "readyStates", fn := fun _ => fun
  | [d1, d2] => { results := [.lit (.bool true)], args := [d1, d2] }
  | _ => none }
def readyStatesRow : OpenClaim := { program := "ytjjiphigolegbaadoor", sum := "ea671041a302889a420dd1600676fd7d955cd546d7f233fab70c30437ca73c74", func := "ferry/ferrylaw09.ReadyStates", spec := "readyStates", unfollowed := true, recurses := true, named := ["ferry/api.ErrState", "ferry/api.ErrNone", "ferry/api.ErrArg"], apart := false, laid := [("ferry/api.ErrState", laid_ferry_api_ErrState), ("ferry/api.ErrArg", laid_ferry_api_ErrArg), ("ferry/api.ErrNone", laid_ferry_api_ErrNone)] }
def ReadyStatesSaid : Prop := readyStatesRow.holds Tryd.pinned (OpenSpec.ofChange readyStatesSpec)

/-- ITS FALSE NEIGHBOUR: 'it returns false'. Refute it at one input. -/
def readyStatesWrong : ChangeSpec := { name := "readyStates", fn := fun _ => fun
  | [d1, d2] => { results := [.lit (.bool false)], args := [d1, d2] }
  | _ => none }
def ReadyStatesWrongFalsely : Prop := readyStatesRow.holds Tryd.pinned (OpenSpec.ofChange readyStatesWrong)

/-- 'ferrylaw09.ReadyLends': WHATEVER THE INPUT: true; the input reads as it did. -/
def readyLendsSpec : ChangeSpec := { name := "readyLends", fn := fun _ => fun
  | [d1, d2] => { results := [.lit (.bool true)], args := [d1, d2] }
  | _ => none }
def readyLendsRow : OpenClaim := { program := "ytjjiphigolegbaadoor", sum := "ea671041a302889a420dd1600676fd7d955cd546d7f233fab70c30437ca73c74", func := "ferry/ferrylaw09.ReadyLends", spec := "readyLends", unfollowed := true, recurses := true, named := ["ferry/api.ErrState", "ferry/api.ErrNone", "ferry/api.ErrArg"], apart := false, laid := [("ferry/api.ErrState", laid_ferry_api_ErrState), ("ferry/api.ErrArg", laid_ferry_api_ErrArg), ("ferry/api.ErrNone", laid_ferry_api_ErrNone)] }
def ReadyLendsSaid : Prop := readyLendsRow.holds Tryd.pinned (OpenSpec.ofChange readyLendsSpec)

/-- ITS FALSE NEIGHBOUR: 'it returns false'. Refute it at one input. -/
def readyLendsWrong : ChangeSpec := { name := "readyLends", fn := fun _ => fun
  | [d1, d2] => { results := [.lit (.bool false)], args := [d1, d2] }
  | _ => none }
def ReadyLendsWrongFalsely : Prop := readyLendsRow.holds Tryd.pinned (OpenSpec.ofChange readyLendsWrong)

/-- 'ferrylaw27.RunTells': WHATEVER THE INPUT: true; the input reads as it did. -/
def runTellsSpec : ChangeSpec := { name := "runTells", fn := fun _ => fun
  | [d1, d2] => { results := [.lit (.bool true)], args := [d1, d2] }
  | _ => none }
def runTellsRow : OpenClaim := { program := "ytjjiphigolegbaadoor", sum := "ea671041a302889a420dd1600676fd7d955cd546d7f233fab70c30437ca73c74", func := "ferry/ferrylaw27.RunTells", spec := "runTells", inPlace := ["internal/abi.NoEscape"], named := ["internal/strconv.uint64pow10", "math/bits.deBruijn32tab", "math/bits.deBruijn64tab"], apart := false, laid := [("math/bits.deBruijn32tab", laid_math_bits_deBruijn32tab), ("math/bits.deBruijn64tab", laid_math_bits_deBruijn64tab), ("internal/strconv.uint64pow10", laid_internal_strconv_uint64pow10)] }
def RunTellsSaid : Prop := runTellsRow.holds Tryd.pinned (OpenSpec.ofChange runTellsSpec)

/-- ITS FALSE NEIGHBOUR: 'it returns false'. Refute it at one input. -/
def runTellsWrong : ChangeSpec := { name := "runTells", fn := fun _ => fun
  | [d1, d2] => { results := [.lit (.bool false)], args := [d1, d2] }
  | _ => none }
def RunTellsWrongFalsely : Prop := runTellsRow.holds Tryd.pinned (OpenSpec.ofChange runTellsWrong)

/-- 'ferrylaw09.ReadyFires': WHATEVER THE INPUT: true; the input reads as it did. -/
def readyFiresSpec : ChangeSpec := { name := "readyFires", fn := fun _ => fun
  | [d1, d2, d3] => { results := [.lit (.bool true)], args := [d1, d2, d3] }
  | _ => none }
def readyFiresRow : OpenClaim := { program := "ytjjiphigolegbaadoor", sum := "ea671041a302889a420dd1600676fd7d955cd546d7f233fab70c30437ca73c74", func := "ferry/ferrylaw09.ReadyFires", spec := "readyFires", inPlace := ["internal/reflectlite.TypeOf", "internal/reflectlite.ValueOf", "(internal/reflectlite.Value).Type", "(internal/reflectlite.Value).IsNil", "(internal/reflectlite.Value).Elem", "(internal/reflectlite.Value).Set"], unfollowed := true, recurses := true, named := ["ferry/api.ErrState", "ferry/api.ErrArg", "ferry/api.ErrShort", "ferry/api.ErrRest", "ferry/api.ErrTag", "ferry/api.ErrRange", "ferry/api.ErrLength", "ferry/api.ErrSum", "ferry/api.ErrKind", "ferry/api.ErrPlan", "ferry/api.ErrBase", "ferry/api.ErrSize", "ferry/api.ErrEnd", "ferry/api.ErrBusy", "ferry/api.ErrDown", "ferry/api.ErrLost", "ferry/api.ErrNone", "ferry/api.ErrText", "ferry/api.ErrStop", "ferry/api.ErrDivide", "errors.errorType"], apart := false, laid := [("errors.errorType", laid_errors_errorType), ("ferry/api.ErrShort", laid_ferry_api_ErrShort), ("ferry/api.ErrRest", laid_ferry_api_ErrRest), ("ferry/api.ErrTag", laid_ferry_api_ErrTag), ("ferry/api.ErrRange", laid_ferry_api_ErrRange), ("ferry/api.ErrLength", laid_ferry_api_ErrLength), ("ferry/api.ErrSum", laid_ferry_api_ErrSum), ("ferry/api.ErrKind", laid_ferry_api_ErrKind), ("ferry/api.ErrPlan", laid_ferry_api_ErrPlan), ("ferry/api.ErrState", laid_ferry_api_ErrState), ("ferry/api.ErrBase", laid_ferry_api_ErrBase), ("ferry/api.ErrSize", laid_ferry_api_ErrSize), ("ferry/api.ErrArg", laid_ferry_api_ErrArg), ("ferry/api.ErrEnd", laid_ferry_api_ErrEnd), ("ferry/api.ErrBusy", laid_ferry_api_ErrBusy), ("ferry/api.ErrDown", laid_ferry_api_ErrDown), ("ferry/api.ErrLost", laid_ferry_api_ErrLost), ("ferry/api.ErrNone", laid_ferry_api_ErrNone), ("ferry/api.ErrText", laid_ferry_api_ErrText), ("ferry/api.ErrStop", laid_ferry_api_ErrStop), ("ferry/api.ErrDivide", laid_ferry_api_ErrDivide)] }
def ReadyFiresSaid : Prop := readyFiresRow.holds Tryd.pinned (OpenSpec.ofChange readyFiresSpec)

/-- ITS FALSE NEIGHBOUR: 'it returns false'. Refute it at one input. -/
def readyFiresWrong : ChangeSpec := { name := "readyFires", fn := fun _ => fun
  | [d1, d2, d3] => { results := [.lit (.bool false)], args := [d1, d2, d3] }
  | _ => none }
def ReadyFiresWrongFalsely : Prop := readyFiresRow.holds Tryd.pinned (OpenSpec.ofChange readyFiresWrong)

/-- 'ferrylaw09.ReadyForms': WHATEVER THE INPUT: true; the input reads as it did. -/
def readyFormsSpec : ChangeSpec := { name := "readyForms", fn := fun _ => fun
  | [d] => { results := [.lit (.bool true)], args := [d] }
  | _ => none }
def readyFormsRow : OpenClaim := { program := "ytjjiphigolegbaadoor", sum := "ea671041a302889a420dd1600676fd7d955cd546d7f233fab70c30437ca73c74", func := "ferry/ferrylaw09.ReadyForms", spec := "readyForms", inPlace := ["internal/reflectlite.TypeOf", "internal/reflectlite.ValueOf", "(internal/reflectlite.Value).Type", "(internal/reflectlite.Value).IsNil", "(internal/reflectlite.Value).Elem", "(internal/reflectlite.Value).Set"], unfollowed := true, recurses := true, named := ["ferry/api.ErrState", "ferry/api.ErrNone", "ferry/api.ErrArg", "ferry/api.ErrShort", "ferry/api.ErrRest", "ferry/api.ErrTag", "ferry/api.ErrRange", "ferry/api.ErrLength", "ferry/api.ErrSum", "ferry/api.ErrKind", "ferry/api.ErrPlan", "ferry/api.ErrBase", "ferry/api.ErrSize", "ferry/api.ErrEnd", "ferry/api.ErrBusy", "ferry/api.ErrDown", "ferry/api.ErrLost", "ferry/api.ErrText", "ferry/api.ErrStop", "ferry/api.ErrDivide", "errors.errorType"], apart := false, laid := [("errors.errorType", laid_errors_errorType), ("ferry/api.ErrShort", laid_ferry_api_ErrShort), ("ferry/api.ErrRest", laid_ferry_api_ErrRest), ("ferry/api.ErrTag", laid_ferry_api_ErrTag), ("ferry/api.ErrRange", laid_ferry_api_ErrRange), ("ferry/api.ErrLength", laid_ferry_api_ErrLength), ("ferry/api.ErrSum", laid_ferry_api_ErrSum), ("ferry/api.ErrKind", laid_ferry_api_ErrKind), ("ferry/api.ErrPlan", laid_ferry_api_ErrPlan), ("ferry/api.ErrState", laid_ferry_api_ErrState), ("ferry/api.ErrBase", laid_ferry_api_ErrBase), ("ferry/api.ErrSize", laid_ferry_api_ErrSize), ("ferry/api.ErrArg", laid_ferry_api_ErrArg), ("ferry/api.ErrEnd", laid_ferry_api_ErrEnd), ("ferry/api.ErrBusy", laid_ferry_api_ErrBusy), ("ferry/api.ErrDown", laid_ferry_api_ErrDown), ("ferry/api.ErrLost", laid_ferry_api_ErrLost), ("ferry/api.ErrNone", laid_ferry_api_ErrNone), ("ferry/api.ErrText", laid_ferry_api_ErrText), ("ferry/api.ErrStop", laid_ferry_api_ErrStop), ("ferry/api.ErrDivide", laid_ferry_api_ErrDivide)] }
def ReadyFormsSaid : Prop := readyFormsRow.holds Tryd.pinned (OpenSpec.ofChange readyFormsSpec)

/-- ITS FALSE NEIGHBOUR: 'it returns false'. Refute it at one input. -/
def readyFormsWrong : ChangeSpec := { name := "readyForms", fn := fun _ => fun
  | [d] => { results := [.lit (.bool false)], args := [d] }
  | _ => none }
def ReadyFormsWrongFalsely : Prop := readyFormsRow.holds Tryd.pinned (OpenSpec.ofChange readyFormsWrong)

/-- 'ferrylaw09.ReadyWakes': WHATEVER THE INPUT: true; the input reads as it did. -/
def readyWakesSpec : ChangeSpec := { name := "readyWakes", fn := fun _ => fun
  | [d] => { results := [.lit (.bool true)], args := [d] }
  | _ => none }
def readyWakesRow : OpenClaim := { program := "ytjjiphigolegbaadoor", sum := "ea671041a302889a420dd1600676fd7d955cd546d7f233fab70c30437ca73c74", func := "ferry/ferrylaw09.ReadyWakes", spec := "readyWakes", inPlace := ["internal/reflectlite.TypeOf", "internal/reflectlite.ValueOf", "(internal/reflectlite.Value).Type", "(internal/reflectlite.Value).IsNil", "(internal/reflectlite.Value).Elem", "(internal/reflectlite.Value).Set"], unfollowed := true, recurses := true, named := ["ferry/api.ErrState", "ferry/api.ErrArg", "ferry/api.ErrNone", "ferry/api.ErrShort", "ferry/api.ErrRest", "ferry/api.ErrTag", "ferry/api.ErrRange", "ferry/api.ErrLength", "ferry/api.ErrSum", "ferry/api.ErrKind", "ferry/api.ErrPlan", "ferry/api.ErrBase", "ferry/api.ErrSize", "ferry/api.ErrEnd", "ferry/api.ErrBusy", "ferry/api.ErrDown", "ferry/api.ErrLost", "ferry/api.ErrText", "ferry/api.ErrStop", "ferry/api.ErrDivide", "errors.errorType"], apart := false, laid := [("errors.errorType", laid_errors_errorType), ("ferry/api.ErrShort", laid_ferry_api_ErrShort), ("ferry/api.ErrRest", laid_ferry_api_ErrRest), ("ferry/api.ErrTag", laid_ferry_api_ErrTag), ("ferry/api.ErrRange", laid_ferry_api_ErrRange), ("ferry/api.ErrLength", laid_ferry_api_ErrLength), ("ferry/api.ErrSum", laid_ferry_api_ErrSum), ("ferry/api.ErrKind", laid_ferry_api_ErrKind), ("ferry/api.ErrPlan", laid_ferry_api_ErrPlan), ("ferry/api.ErrState", laid_ferry_api_ErrState), ("ferry/api.ErrBase", laid_ferry_api_ErrBase), ("ferry/api.ErrSize", laid_ferry_api_ErrSize), ("ferry/api.ErrArg", laid_ferry_api_ErrArg), ("ferry/api.ErrEnd", laid_ferry_api_ErrEnd), ("ferry/api.ErrBusy", laid_ferry_api_ErrBusy), ("ferry/api.ErrDown", laid_ferry_api_ErrDown), ("ferry/api.ErrLost", laid_ferry_api_ErrLost), ("ferry/api.ErrNone", laid_ferry_api_ErrNone), ("ferry/api.ErrText", laid_ferry_api_ErrText), ("ferry/api.ErrStop", laid_ferry_api_ErrStop), ("ferry/api.ErrDivide", laid_ferry_api_ErrDivide)] }
def ReadyWakesSaid : Prop := readyWakesRow.holds Tryd.pinned (OpenSpec.ofChange readyWakesSpec)

/-- ITS FALSE NEIGHBOUR: 'it returns false'. Refute it at one input. -/
def readyWakesWrong : ChangeSpec := { name := "readyWakes", fn := fun _ => fun
  | [d] => { results := [.lit (.bool false)], args := [d] }
  | _ => none }
def ReadyWakesWrongFalsely : Prop := readyWakesRow.holds Tryd.pinned (OpenSpec.ofChange readyWakesWrong)

/-- 'ferrylaw08.TimerSteps': WHATEVER THE INPUT: true; the input reads as it did. -/
def timerStepsSpec : ChangeSpec := { name := "timerSteps", fn := fun _ => fun
  | [d1, d2, d3] => { results := [.lit (.bool true)], args := [d1, d2, d3] }
  | _ => none }
def timerStepsRow : OpenClaim := { program := "ytjjiphigolegbaadoor", sum := "ea671041a302889a420dd1600676fd7d955cd546d7f233fab70c30437ca73c74", func := "ferry/ferrylaw08.TimerSteps", spec := "timerSteps", unfollowed := true, recurses := true, named := ["ferry/api.ErrRange", "ferry/api.ErrArg", "ferry/api.ErrState"], apart := false, laid := [("ferry/api.ErrRange", laid_ferry_api_ErrRange), ("ferry/api.ErrState", laid_ferry_api_ErrState), ("ferry/api.ErrArg", laid_ferry_api_ErrArg)] }
def TimerStepsSaid : Prop := timerStepsRow.holds Tryd.pinned (OpenSpec.ofChange timerStepsSpec)

/-- ITS FALSE NEIGHBOUR: 'it returns false'. Refute it at one input. -/
def timerStepsWrong : ChangeSpec := { name := "timerSteps", fn := fun _ => fun
  | [d1, d2, d3] => { results := [.lit (.bool false)], args := [d1, d2, d3] }
  | _ => none }
def TimerStepsWrongFalsely : Prop := timerStepsRow.holds Tryd.pinned (OpenSpec.ofChange timerStepsWrong)

/-- 'ferrylaw08.TimerOne': WHATEVER THE INPUT: true; the input reads as it did. -/
def timerOneSpec : ChangeSpec := { name := "timerOne", fn := fun _ => fun
  | [d1, d2, d3] => { results := [.lit (.bool true)], args := [d1, d2, d3] }
  | _ => none }
def timerOneRow : OpenClaim := { program := "ytjjiphigolegbaadoor", sum := "ea671041a302889a420dd1600676fd7d955cd546d7f233fab70c30437ca73c74", func := "ferry/ferrylaw08.TimerOne", spec := "timerOne", unfollowed := true, recurses := true, named := ["ferry/api.ErrRange", "ferry/api.ErrArg", "ferry/api.ErrState"], apart := false, laid := [("ferry/api.ErrRange", laid_ferry_api_ErrRange), ("ferry/api.ErrState", laid_ferry_api_ErrState), ("ferry/api.ErrArg", laid_ferry_api_ErrArg)] }
def TimerOneSaid : Prop := timerOneRow.holds Tryd.pinned (OpenSpec.ofChange timerOneSpec)

/-- ITS FALSE NEIGHBOUR: 'it returns false'. Refute it at one input. -/
def timerOneWrong : ChangeSpec := { name := "timerOne", fn := fun _ => fun
  | [d1, d2, d3] => { results := [.lit (.bool false)], args := [d1, d2, d3] }
  | _ => none }
def TimerOneWrongFalsely : Prop := timerOneRow.holds Tryd.pinned (OpenSpec.ofChange timerOneWrong)

/-- 'ferrylaw08.TimerRelative': WHATEVER THE INPUT: true; the input reads as it did. -/
def timerRelativeSpec : ChangeSpec := { name := "timerRelative", fn := fun _ => fun
  | [d1, d2, d3] => { results := [.lit (.bool true)], args := [d1, d2, d3] }
  | _ => none }
def timerRelativeRow : OpenClaim := { program := "ytjjiphigolegbaadoor", sum := "ea671041a302889a420dd1600676fd7d955cd546d7f233fab70c30437ca73c74", func := "ferry/ferrylaw08.TimerRelative", spec := "timerRelative", unfollowed := true, recurses := true, named := ["ferry/api.ErrRange", "ferry/api.ErrArg", "ferry/api.ErrState"], apart := false, laid := [("ferry/api.ErrRange", laid_ferry_api_ErrRange), ("ferry/api.ErrState", laid_ferry_api_ErrState), ("ferry/api.ErrArg", laid_ferry_api_ErrArg)] }
def TimerRelativeSaid : Prop := timerRelativeRow.holds Tryd.pinned (OpenSpec.ofChange timerRelativeSpec)

/-- ITS FALSE NEIGHBOUR: 'it returns false'. Refute it at one input. -/
def timerRelativeWrong : ChangeSpec := { name := "timerRelative", fn := fun _ => fun
  | [d1, d2, d3] => { results := [.lit (.bool false)], args := [d1, d2, d3] }
  | _ => none }
def TimerRelativeWrongFalsely : Prop := timerRelativeRow.holds Tryd.pinned (OpenSpec.ofChange timerRelativeWrong)

/-- 'ferrylaw09.ReadyBlocks': WHATEVER THE INPUT: true; the input reads as it did. -/
def readyBlocksSpec : ChangeSpec := { name := "readyBlocks", fn := fun _ => fun
  | [d] => { results := [.lit (.bool true)], args := [d] }
  | _ => none }
def readyBlocksRow : OpenClaim := { program := "ytjjiphigolegbaadoor", sum := "ea671041a302889a420dd1600676fd7d955cd546d7f233fab70c30437ca73c74", func := "ferry/ferrylaw09.ReadyBlocks", spec := "readyBlocks", unfollowed := true, recurses := true, named := ["ferry/api.ErrState", "ferry/api.ErrNone", "ferry/api.ErrArg"], apart := false, laid := [("ferry/api.ErrState", laid_ferry_api_ErrState), ("ferry/api.ErrArg", laid_ferry_api_ErrArg), ("ferry/api.ErrNone", laid_ferry_api_ErrNone)] }
def ReadyBlocksSaid : Prop := readyBlocksRow.holds Tryd.pinned (OpenSpec.ofChange readyBlocksSpec)

/-- ITS FALSE NEIGHBOUR: 'it returns false'. Refute it at one input. -/
def readyBlocksWrong : ChangeSpec := { name := "readyBlocks", fn := fun _ => fun
  | [d] => { results := [.lit (.bool false)], args := [d] }
  | _ => none }
def ReadyBlocksWrongFalsely : Prop := readyBlocksRow.holds Tryd.pinned (OpenSpec.ofChange readyBlocksWrong)

/- THE SECOND FORM. 'bulk': how many values and letters a reading holds, each counted each time it is reached (what is shared counts as often as it is met; a slice's spare places count too). A statement '..UptoSaid' is the law's where the arguments, and the package variables that the reading takes, are together of bulk at most 1048576: NARROWER than '..Said'. Prove '..Said' where nothing that the law and all that it calls make is longer than what came in: it says more and counts as full. Else prove '..UptoSaid'. A law counts once. -/
mutual
def uptoBulk {H : Type} : DataW H → Nat
  | .lit (.string bytes) => bytes.length + 1
  | .lit _ => 1
  | .nil => 1
  | .ptr d => uptoBulk d + 1
  | .slice elems spare => uptoBulkAll elems + uptoBulkAll spare + 1
  | .agg parts => uptoBulkAll parts + 1
  | .iface _ d => uptoBulk d + 1
  | .map entries => uptoBulkEntries entries + 1
  | .held _ => 1
def uptoBulkAll {H : Type} : List (DataW H) → Nat
  | [] => 0
  | d :: r => uptoBulk d + uptoBulkAll r
def uptoBulkEntries {H : Type} : List (Lit × DataW H) → Nat
  | [] => 0
  | x :: r => uptoBulkEntry x + uptoBulkEntries r
def uptoBulkEntry {H : Type} : Lit × DataW H → Nat
  | (.string bytes, d) => bytes.length + uptoBulk d + 1
  | (_, d) => uptoBulk d + 1
 end
def uptoSmall : (H : Type) → List (DataW H) → Bool := fun _ ds => decide (uptoBulkAll ds ≤ 1048576)
def OpenSpec.upto (s : _root_.Go.ChangeSpec) : _root_.Go.OpenSpec := { _root_.Go.OpenSpec.ofChange s with cond := some uptoSmall }

/-- 'ferrylaw09.ReadyTurns', WHERE WHAT IT READS IS OF BULK AT MOST 1048576: true; the input reads as it did. -/
def readyTurnsUptoRow : OpenClaim := { program := "ytjjiphigolegbaadoor", sum := "ea671041a302889a420dd1600676fd7d955cd546d7f233fab70c30437ca73c74", func := "ferry/ferrylaw09.ReadyTurns", spec := "readyTurns", unfollowed := true, recurses := true, named := ["ferry/api.ErrState", "ferry/api.ErrNone", "ferry/api.ErrArg"], apart := false, laid := [("ferry/api.ErrState", laid_ferry_api_ErrState), ("ferry/api.ErrArg", laid_ferry_api_ErrArg), ("ferry/api.ErrNone", laid_ferry_api_ErrNone)], narrowed := true }
def ReadyTurnsUptoSaid : Prop := readyTurnsUptoRow.holds Tryd.pinned (OpenSpec.upto readyTurnsSpec)

/-- 'ferrylaw27.RunWords', WHERE WHAT IT READS IS OF BULK AT MOST 1048576: true; the input reads as it did. -/
def runWordsUptoRow : OpenClaim := { program := "ytjjiphigolegbaadoor", sum := "ea671041a302889a420dd1600676fd7d955cd546d7f233fab70c30437ca73c74", func := "ferry/ferrylaw27.RunWords", spec := "runWords", named := ["internal/strconv.uint64pow10", "math/bits.deBruijn32tab", "math/bits.deBruijn64tab"], apart := false, laid := [("math/bits.deBruijn32tab", laid_math_bits_deBruijn32tab), ("math/bits.deBruijn64tab", laid_math_bits_deBruijn64tab), ("internal/strconv.uint64pow10", laid_internal_strconv_uint64pow10)], narrowed := true }
def RunWordsUptoSaid : Prop := runWordsUptoRow.holds Tryd.pinned (OpenSpec.upto runWordsSpec)

/-- 'ferrylaw09.ReadyStates', WHERE WHAT IT READS IS OF BULK AT MOST 1048576: true; the input reads as it did. -/
def readyStatesUptoRow : OpenClaim := { program := "ytjjiphigolegbaadoor", sum := "ea671041a302889a420dd1600676fd7d955cd546d7f233fab70c30437ca73c74", func := "ferry/ferrylaw09.ReadyStates", spec := "readyStates", unfollowed := true, recurses := true, named := ["ferry/api.ErrState", "ferry/api.ErrNone", "ferry/api.ErrArg"], apart := false, laid := [("ferry/api.ErrState", laid_ferry_api_ErrState), ("ferry/api.ErrArg", laid_ferry_api_ErrArg), ("ferry/api.ErrNone", laid_ferry_api_ErrNone)], narrowed := true }
def ReadyStatesUptoSaid : Prop := readyStatesUptoRow.holds Tryd.pinned (OpenSpec.upto readyStatesSpec)

/-- 'ferrylaw09.ReadyLends', WHERE WHAT IT READS IS OF BULK AT MOST 1048576: true; the input reads as it did. -/
def readyLendsUptoRow : OpenClaim := { program := "ytjjiphigolegbaadoor", sum := "ea671041a302889a420dd1600676fd7d955cd546d7f233fab70c30437ca73c74", func := "ferry/ferrylaw09.ReadyLends", spec := "readyLends", unfollowed := true, recurses := true, named := ["ferry/api.ErrState", "ferry/api.ErrNone", "ferry/api.ErrArg"], apart := false, laid := [("ferry/api.ErrState", laid_ferry_api_ErrState), ("ferry/api.ErrArg", laid_ferry_api_ErrArg), ("ferry/api.ErrNone", laid_ferry_api_ErrNone)], narrowed := true }
def ReadyLendsUptoSaid : Prop := readyLendsUptoRow.holds Tryd.pinned (OpenSpec.upto readyLendsSpec)

/-- 'ferrylaw27.RunTells', WHERE WHAT IT READS IS OF BULK AT MOST 1048576: true; the input reads as it did. -/
def runTellsUptoRow : OpenClaim := { program := "ytjjiphigolegbaadoor", sum := "ea671041a302889a420dd1600676fd7d955cd546d7f233fab70c30437ca73c74", func := "ferry/ferrylaw27.RunTells", spec := "runTells", inPlace := ["internal/abi.NoEscape"], named := ["internal/strconv.uint64pow10", "math/bits.deBruijn32tab", "math/bits.deBruijn64tab"], apart := false, laid := [("math/bits.deBruijn32tab", laid_math_bits_deBruijn32tab), ("math/bits.deBruijn64tab", laid_math_bits_deBruijn64tab), ("internal/strconv.uint64pow10", laid_internal_strconv_uint64pow10)], narrowed := true }
def RunTellsUptoSaid : Prop := runTellsUptoRow.holds Tryd.pinned (OpenSpec.upto runTellsSpec)

/-- 'ferrylaw09.ReadyFires', WHERE WHAT IT READS IS OF BULK AT MOST 1048576: true; the input reads as it did. -/
def readyFiresUptoRow : OpenClaim := { program := "ytjjiphigolegbaadoor", sum := "ea671041a302889a420dd1600676fd7d955cd546d7f233fab70c30437ca73c74", func := "ferry/ferrylaw09.ReadyFires", spec := "readyFires", inPlace := ["internal/reflectlite.TypeOf", "internal/reflectlite.ValueOf", "(internal/reflectlite.Value).Type", "(internal/reflectlite.Value).IsNil", "(internal/reflectlite.Value).Elem", "(internal/reflectlite.Value).Set"], unfollowed := true, recurses := true, named := ["ferry/api.ErrState", "ferry/api.ErrArg", "ferry/api.ErrShort", "ferry/api.ErrRest", "ferry/api.ErrTag", "ferry/api.ErrRange", "ferry/api.ErrLength", "ferry/api.ErrSum", "ferry/api.ErrKind", "ferry/api.ErrPlan", "ferry/api.ErrBase", "ferry/api.ErrSize", "ferry/api.ErrEnd", "ferry/api.ErrBusy", "ferry/api.ErrDown", "ferry/api.ErrLost", "ferry/api.ErrNone", "ferry/api.ErrText", "ferry/api.ErrStop", "ferry/api.ErrDivide", "errors.errorType"], apart := false, laid := [("errors.errorType", laid_errors_errorType), ("ferry/api.ErrShort", laid_ferry_api_ErrShort), ("ferry/api.ErrRest", laid_ferry_api_ErrRest), ("ferry/api.ErrTag", laid_ferry_api_ErrTag), ("ferry/api.ErrRange", laid_ferry_api_ErrRange), ("ferry/api.ErrLength", laid_ferry_api_ErrLength), ("ferry/api.ErrSum", laid_ferry_api_ErrSum), ("ferry/api.ErrKind", laid_ferry_api_ErrKind), ("ferry/api.ErrPlan", laid_ferry_api_ErrPlan), ("ferry/api.ErrState", laid_ferry_api_ErrState), ("ferry/api.ErrBase", laid_ferry_api_ErrBase), ("ferry/api.ErrSize", laid_ferry_api_ErrSize), ("ferry/api.ErrArg", laid_ferry_api_ErrArg), ("ferry/api.ErrEnd", laid_ferry_api_ErrEnd), ("ferry/api.ErrBusy", laid_ferry_api_ErrBusy), ("ferry/api.ErrDown", laid_ferry_api_ErrDown), ("ferry/api.ErrLost", laid_ferry_api_ErrLost), ("ferry/api.ErrNone", laid_ferry_api_ErrNone), ("ferry/api.ErrText", laid_ferry_api_ErrText), ("ferry/api.ErrStop", laid_ferry_api_ErrStop), ("ferry/api.ErrDivide", laid_ferry_api_ErrDivide)], narrowed := true }
def ReadyFiresUptoSaid : Prop := readyFiresUptoRow.holds Tryd.pinned (OpenSpec.upto readyFiresSpec)

/-- 'ferrylaw09.ReadyForms', WHERE WHAT IT READS IS OF BULK AT MOST 1048576: true; the input reads as it did. -/
def readyFormsUptoRow : OpenClaim := { program := "ytjjiphigolegbaadoor", sum := "ea671041a302889a420dd1600676fd7d955cd546d7f233fab70c30437ca73c74", func := "ferry/ferrylaw09.ReadyForms", spec := "readyForms", inPlace := ["internal/reflectlite.TypeOf", "internal/reflectlite.ValueOf", "(internal/reflectlite.Value).Type", "(internal/reflectlite.Value).IsNil", "(internal/reflectlite.Value).Elem", "(internal/reflectlite.Value).Set"], unfollowed := true, recurses := true, named := ["ferry/api.ErrState", "ferry/api.ErrNone", "ferry/api.ErrArg", "ferry/api.ErrShort", "ferry/api.ErrRest", "ferry/api.ErrTag", "ferry/api.ErrRange", "ferry/api.ErrLength", "ferry/api.ErrSum", "ferry/api.ErrKind", "ferry/api.ErrPlan", "ferry/api.ErrBase", "ferry/api.ErrSize", "ferry/api.ErrEnd", "ferry/api.ErrBusy", "ferry/api.ErrDown", "ferry/api.ErrLost", "ferry/api.ErrText", "ferry/api.ErrStop", "ferry/api.ErrDivide", "errors.errorType"], apart := false, laid := [("errors.errorType", laid_errors_errorType), ("ferry/api.ErrShort", laid_ferry_api_ErrShort), ("ferry/api.ErrRest", laid_ferry_api_ErrRest), ("ferry/api.ErrTag", laid_ferry_api_ErrTag), ("ferry/api.ErrRange", laid_ferry_api_ErrRange), ("ferry/api.ErrLength", laid_ferry_api_ErrLength), ("ferry/api.ErrSum", laid_ferry_api_ErrSum), ("ferry/api.ErrKind", laid_ferry_api_ErrKind), ("ferry/api.ErrPlan", laid_ferry_api_ErrPlan), ("ferry/api.ErrState", laid_ferry_api_ErrState), ("ferry/api.ErrBase", laid_ferry_api_ErrBase), ("ferry/api.ErrSize", laid_ferry_api_ErrSize), ("ferry/api.ErrArg", laid_ferry_api_ErrArg), ("ferry/api.ErrEnd", laid_ferry_api_ErrEnd), ("ferry/api.ErrBusy", laid_ferry_api_ErrBusy), ("ferry/api.ErrDown", laid_ferry_api_ErrDown), ("ferry/api.ErrLost", laid_ferry_api_ErrLost), ("ferry/api.ErrNone", laid_ferry_api_ErrNone), ("ferry/api.ErrText", laid_ferry_api_ErrText), ("ferry/api.ErrStop", laid_ferry_api_ErrStop), ("ferry/api.ErrDivide", laid_ferry_api_ErrDivide)], narrowed := true }
def ReadyFormsUptoSaid : Prop := readyFormsUptoRow.holds Tryd.pinned (OpenSpec.upto readyFormsSpec)

/-- 'ferrylaw09.ReadyWakes', WHERE WHAT IT READS IS OF BULK AT MOST 1048576: true; the input reads as it did. -/
def readyWakesUptoRow : OpenClaim := { program := "ytjjiphigolegbaadoor", sum := "ea671041a302889a420dd1600676fd7d955cd546d7f233fab70c30437ca73c74", func := "ferry/ferrylaw09.ReadyWakes", spec := "readyWakes", inPlace := ["internal/reflectlite.TypeOf", "internal/reflectlite.ValueOf", "(internal/reflectlite.Value).Type", "(internal/reflectlite.Value).IsNil", "(internal/reflectlite.Value).Elem", "(internal/reflectlite.Value).Set"], unfollowed := true, recurses := true, named := ["ferry/api.ErrState", "ferry/api.ErrArg", "ferry/api.ErrNone", "ferry/api.ErrShort", "ferry/api.ErrRest", "ferry/api.ErrTag", "ferry/api.ErrRange", "ferry/api.ErrLength", "ferry/api.ErrSum", "ferry/api.ErrKind", "ferry/api.ErrPlan", "ferry/api.ErrBase", "ferry/api.ErrSize", "ferry/api.ErrEnd", "ferry/api.ErrBusy", "ferry/api.ErrDown", "ferry/api.ErrLost", "ferry/api.ErrText", "ferry/api.ErrStop", "ferry/api.ErrDivide", "errors.errorType"], apart := false, laid := [("errors.errorType", laid_errors_errorType), ("ferry/api.ErrShort", laid_ferry_api_ErrShort), ("ferry/api.ErrRest", laid_ferry_api_ErrRest), ("ferry/api.ErrTag", laid_ferry_api_ErrTag), ("ferry/api.ErrRange", laid_ferry_api_ErrRange), ("ferry/api.ErrLength", laid_ferry_api_ErrLength), ("ferry/api.ErrSum", laid_ferry_api_ErrSum), ("ferry/api.ErrKind", laid_ferry_api_ErrKind), ("ferry/api.ErrPlan", laid_ferry_api_ErrPlan), ("ferry/api.ErrState", laid_ferry_api_ErrState), ("ferry/api.ErrBase", laid_ferry_api_ErrBase), ("ferry/api.ErrSize", laid_ferry_api_ErrSize), ("ferry/api.ErrArg", laid_ferry_api_ErrArg), ("ferry/api.ErrEnd", laid_ferry_api_ErrEnd), ("ferry/api.ErrBusy", laid_ferry_api_ErrBusy), ("ferry/api.ErrDown", laid_ferry_api_ErrDown), ("ferry/api.ErrLost", laid_ferry_api_ErrLost), ("ferry/api.ErrNone", laid_ferry_api_ErrNone), ("ferry/api.ErrText", laid_ferry_api_ErrText), ("ferry/api.ErrStop", laid_ferry_api_ErrStop), ("ferry/api.ErrDivide", laid_ferry_api_ErrDivide)], narrowed := true }
def ReadyWakesUptoSaid : Prop := readyWakesUptoRow.holds Tryd.pinned (OpenSpec.upto readyWakesSpec)

/-- 'ferrylaw08.TimerSteps', WHERE WHAT IT READS IS OF BULK AT MOST 1048576: true; the input reads as it did. -/
def timerStepsUptoRow : OpenClaim := { program := "ytjjiphigolegbaadoor", sum := "ea671041a302889a420dd1600676fd7d955cd546d7f233fab70c30437ca73c74", func := "ferry/ferrylaw08.TimerSteps", spec := "timerSteps", unfollowed := true, recurses := true, named := ["ferry/api.ErrRange", "ferry/api.ErrArg", "ferry/api.ErrState"], apart := false, laid := [("ferry/api.ErrRange", laid_ferry_api_ErrRange), ("ferry/api.ErrState", laid_ferry_api_ErrState), ("ferry/api.ErrArg", laid_ferry_api_ErrArg)], narrowed := true }
def TimerStepsUptoSaid : Prop := timerStepsUptoRow.holds Tryd.pinned (OpenSpec.upto timerStepsSpec)

/-- 'ferrylaw08.TimerOne', WHERE WHAT IT READS IS OF BULK AT MOST 1048576: true; the input reads as it did. -/
def timerOneUptoRow : OpenClaim := { program := "ytjjiphigolegbaadoor", sum := "ea671041a302889a420dd1600676fd7d955cd546d7f233fab70c30437ca73c74", func := "ferry/ferrylaw08.TimerOne", spec := "timerOne", unfollowed := true, recurses := true, named := ["ferry/api.ErrRange", "ferry/api.ErrArg", "ferry/api.ErrState"], apart := false, laid := [("ferry/api.ErrRange", laid_ferry_api_ErrRange), ("ferry/api.ErrState", laid_ferry_api_ErrState), ("ferry/api.ErrArg", laid_ferry_api_ErrArg)], narrowed := true }
def TimerOneUptoSaid : Prop := timerOneUptoRow.holds Tryd.pinned (OpenSpec.upto timerOneSpec)

/-- 'ferrylaw08.TimerRelative', WHERE WHAT IT READS IS OF BULK AT MOST 1048576: true; the input reads as it did. -/
def timerRelativeUptoRow : OpenClaim := { program := "ytjjiphigolegbaadoor", sum := "ea671041a302889a420dd1600676fd7d955cd546d7f233fab70c30437ca73c74", func := "ferry/ferrylaw08.TimerRelative", spec := "timerRelative", unfollowed := true, recurses := true, named := ["ferry/api.ErrRange", "ferry/api.ErrArg", "ferry/api.ErrState"], apart := false, laid := [("ferry/api.ErrRange", laid_ferry_api_ErrRange), ("ferry/api.ErrState", laid_ferry_api_ErrState), ("ferry/api.ErrArg", laid_ferry_api_ErrArg)], narrowed := true }
def TimerRelativeUptoSaid : Prop := timerRelativeUptoRow.holds Tryd.pinned (OpenSpec.upto timerRelativeSpec)

/-- 'ferrylaw09.ReadyBlocks', WHERE WHAT IT READS IS OF BULK AT MOST 1048576: true; the input reads as it did. -/
def readyBlocksUptoRow : OpenClaim := { program := "ytjjiphigolegbaadoor", sum := "ea671041a302889a420dd1600676fd7d955cd546d7f233fab70c30437ca73c74", func := "ferry/ferrylaw09.ReadyBlocks", spec := "readyBlocks", unfollowed := true, recurses := true, named := ["ferry/api.ErrState", "ferry/api.ErrNone", "ferry/api.ErrArg"], apart := false, laid := [("ferry/api.ErrState", laid_ferry_api_ErrState), ("ferry/api.ErrArg", laid_ferry_api_ErrArg), ("ferry/api.ErrNone", laid_ferry_api_ErrNone)], narrowed := true }
def ReadyBlocksUptoSaid : Prop := readyBlocksUptoRow.holds Tryd.pinned (OpenSpec.upto readyBlocksSpec)

end Rows
end Go.Proofs.YtjjiphigolegbaaDoor
