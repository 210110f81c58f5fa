/-
  The seat's program, and how its functions are called. By an AI agent; no person has read it.
-/
import Derived.Test.YtoogammidjhfgaaDoorFvW4
import Derived.Test.YtoogammidjhfgaaDoorProg
import Derived.Lib.ItoaNum
import Derived.Lib.Join
set_option linter.unusedVariables false
set_option linter.unusedSimpArgs false
set_option linter.unusedSectionVars false
/-! The seat's program, and how its functions are called. -/
namespace Go.Fv.Tr
open Go Go.Fv Go.Proofs

def pures : List Nat := [104, 105, 166, 190, 191, 192, 8, 103, 13, 55, 57, 17, 18, 58, 56, 113, 101, 111, 100, 102, 98, 99, 112, 109, 110, 39, 48, 40, 53, 52, 46, 47, 158, 159, 49, 156, 154, 31, 32, 87, 160, 161, 155, 50, 118, 119, 122, 178, 179, 169, 171, 180, 164, 167, 168, 193, 106, 107, 108, 92, 93, 94, 95, 96, 97, 151, 41, 42, 43, 44, 45, 115, 116, 117, 162, 51, 74, 131, 73, 128, 68, 127, 26, 133, 30, 78, 79, 81, 82, 83, 137, 174, 134, 135, 136, 90, 148, 147, 149, 150, 91, 33]
def owns : List Nat := [123, 65, 61, 66, 59, 152, 120, 153, 80]
/-- errors.Is and errors.As, by their contracts. -/
def exts : List Nat := []
/-- What is known by contracts of the library and only sees its arguments. -/
def seens : List Nat := [86, 173, 84]
/-- What is known by contracts and writes where it is told. -/
def efs : List Nat := [88]
def kindOf (f : FuncId) : Kind := if exts.contains f then .ext else if seens.contains f then .exts else if efs.contains f then .extm else if pures.contains f then .pure else if owns.contains f then .own else .inl
/-- Is the variable a sentinel of its own? -/
def sentOf (G : Nat → Option (List V)) (k : Nat) : Bool := match G k with
  | some [.iface 341 (.ext j)] => j == k
  | _ => false
def sentL : List Nat := [0, 1, 2, 3, 4, 5, 6, 7, 8, 9, 10, 11, 12, 13, 14, 15, 16, 17, 18, 19]
def isSent (g : Nat) : Bool := sentL.contains g
theorem sents_ok : isSent 0 = true ∧ isSent 1 = true ∧ isSent 2 = true ∧ isSent 3 = true ∧ isSent 4 = true ∧ isSent 5 = true ∧ isSent 6 = true ∧ isSent 7 = true ∧ isSent 8 = true ∧ isSent 9 = true ∧ isSent 10 = true ∧ isSent 11 = true ∧ isSent 12 = true ∧ isSent 13 = true ∧ isSent 14 = true ∧ isSent 15 = true ∧ isSent 16 = true ∧ isSent 17 = true ∧ isSent 18 = true ∧ isSent 19 = true := ⟨rfl, rfl, rfl, rfl, rfl, rfl, rfl, rfl, rfl, rfl, rfl, rfl, rfl, rfl, rfl, rfl, rfl, rfl, rfl, rfl⟩
/-- Is the variable errors.errorType laid? -/
def handOf (G : Nat → Option (List V)) : Bool := match G 20 with
  | some [] => true
  | _ => false
def isX (G : Nat → Option (List V)) : List V → Option V
  | [.nili, .iface 341 (.ext _)] => some (.bool false)
  | [.iface 341 (.ext i), .iface 341 (.ext j)] => if i == j then some (.bool true) else if sentOf G i && sentOf G j then some (.bool false) else none
  | [.iface 186 (.iptr [_, .iface 341 (.ext i)] 0), .iface 341 (.ext j)] => if i == j then some (.bool true) else if sentOf G i && sentOf G j then some (.bool false) else none
  | _ => none
def asX (G : Nat → Option (List V)) : List V → Option V
  | [.nili, .iface 188 (.ptr _ _ _)] => some (.bool false)
  | [.iface 341 (.ext _), .iface 188 (.ptr _ _ _)] => if handOf G then some (.bool false) else none
  | _ => none
/-- Is the table of the powers of ten laid? -/
def tabOf (G : Nat → Option (List V)) : Bool := match G 22 with
  | some [] => true
  | _ => false
/-- A number as decimal digits. -/
def itoaB (n : Int) : ByteArray := ⟨(Go.Lib.itoa n).toArray⟩
def itoaX (G : Nat → Option (List V)) : List V → Option V
  | [.int .i64 n] => if tabOf G = true ∧ -9223372036854775808 ≤ n ∧ n ≤ 9223372036854775807 then some (.str (itoaB n)) else none
  | _ => none
def powTab : Array Value := (Go.Lib.pow10Tab.map fun z => Value.int .u64 z).toArray
def strOf : List V → Option ByteArray
  | [.str s] => some s
  | _ => none
/-- strings.Join. -/
def joinB (l : List ByteArray) (sep : ByteArray) : ByteArray := ⟨(Go.Lib.join (l.map (·.data.toList)) sep.data.toList).toArray⟩
def joinX : List V → Option V
  | [.imm 1 rows, .str sep] => (rows.mapM strOf).bind fun l => if rows ≠ [] ∧ rows.length ≤ 140737488355328 ∧ (Go.Lib.join (l.map (·.data.toList)) sep.data.toList).length ≤ 140737488355328 then some (.str (joinB l sep)) else none
  | _ => none
/-- errors.As with a variable of type *api.At. -/
def asY (G : Nat → Option (List V)) : List V → M V
  | [.nili, .iface 188 (.ptr _ _ _)] => M.ret (.bool false)
  | [.iface 341 (.ext _), .iface 188 (.ptr _ _ _)] => if handOf G then M.ret (.bool false) else M.fail
  | [.iface 186 (.ptr a b c), .iface 188 (.ptr l i o)] => if handOf G then (storeN 1 (.ptr l i o) (.ptr a b c)).bind fun _ => M.ret (.bool true) else M.fail
  | [.iface 186 (.iptr r c), .iface 188 (.ptr l i o)] => if handOf G then (storeN 1 (.ptr l i o) (.iptr r c)).bind fun _ => M.ret (.bool true) else M.fail
  | _ => M.fail
def extY (G : Nat → Option (List V)) (f : FuncId) (args : List V) : M V := if f = 88 then asY G args else M.fail
def extX (G : Nat → Option (List V)) (f : FuncId) (args : List V) : Option V := if f = 86 then isX G args else if f = 88 then asX G args else if f = 173 then itoaX G args else if f = 84 then joinX args else none
noncomputable def cfg (G : Nat → Option (List V)) : Cfg :=
  { P := Tryd.prog, G := G, kind := kindOf, X := extX G, S := sentOf G, Z := fun g => if g = 20 ∧ handOf G = true then some (.iface 294 (.agg #[.pointer (some ⟨25, 69, none⟩)])) else none, T := fun g => if g = 22 ∧ tabOf G = true then some powTab else none, Y := extY G }
end Go.Fv.Tr
