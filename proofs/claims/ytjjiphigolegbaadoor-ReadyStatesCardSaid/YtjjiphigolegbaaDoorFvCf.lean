/-
  The seat's program, and how its functions are called. By an AI agent; no person has read it.
-/
import Derived.Test.YtjjiphigolegbaaDoorFvW4
import Derived.Test.YtjjiphigolegbaaDoorProg
set_option linter.unusedVariables false
set_option linter.unusedSimpArgs false
set_option linter.unusedSectionVars false
/-! The seat's program, and how its functions are called. -/
namespace Go.Fv.Tr
open Go Go.Fv Go.Proofs

def pures : List Nat := [63, 64, 119, 142, 143, 144, 15, 16, 18, 19, 25, 27, 40, 41, 42, 43, 44, 45, 46, 47, 48, 49, 50, 51, 39, 52, 53, 54, 55, 56, 57, 58, 59, 60, 61, 62, 65, 66, 88, 89, 115, 90, 91, 93, 94, 95, 96, 99, 100, 101, 102, 104, 113, 117, 120, 121, 122, 70, 71, 21, 69, 20, 105, 110, 126]
def owns : List Nat := [67, 72, 73, 74, 75, 92, 97, 76, 77, 79]
/-- errors.Is and errors.As, by their contracts. -/
def exts : List Nat := [114, 116]
/-- What is known by contracts of the library and only sees its arguments. -/
def seens : List Nat := []
/-- What is known by contracts and writes where it is told. -/
def efs : List Nat := []
def kindOf (f : FuncId) : Kind := if exts.contains f then .ext else if seens.contains f then .exts else if efs.contains f then .extm else if pures.contains f then .pure else if owns.contains f then .own else .inl
/-- Is the variable a sentinel of its own? -/
def sentOf (G : Nat → Option (List V)) (k : Nat) : Bool := match G k with
  | some [.iface 251 (.ext j)] => j == k
  | _ => false
def sentL : List Nat := [0, 1, 2, 3, 4, 5, 6, 7, 8, 9, 10, 11, 12, 13, 14, 15, 16, 17, 18, 19]
def isSent (g : Nat) : Bool := sentL.contains g
theorem sents_ok : isSent 0 = true ∧ isSent 1 = true ∧ isSent 2 = true ∧ isSent 3 = true ∧ isSent 4 = true ∧ isSent 5 = true ∧ isSent 6 = true ∧ isSent 7 = true ∧ isSent 8 = true ∧ isSent 9 = true ∧ isSent 10 = true ∧ isSent 11 = true ∧ isSent 12 = true ∧ isSent 13 = true ∧ isSent 14 = true ∧ isSent 15 = true ∧ isSent 16 = true ∧ isSent 17 = true ∧ isSent 18 = true ∧ isSent 19 = true := ⟨rfl, rfl, rfl, rfl, rfl, rfl, rfl, rfl, rfl, rfl, rfl, rfl, rfl, rfl, rfl, rfl, rfl, rfl, rfl, rfl⟩
/-- Is the variable errors.errorType laid? -/
def handOf (G : Nat → Option (List V)) : Bool := match G 20 with
  | some [] => true
  | _ => false
def isX (G : Nat → Option (List V)) : List V → Option V
  | [.nili, .iface 251 (.ext _)] => some (.bool false)
  | [.iface 251 (.ext i), .iface 251 (.ext j)] => if i == j then some (.bool true) else if sentOf G i && sentOf G j then some (.bool false) else none
  | _ => none
def asX (G : Nat → Option (List V)) : List V → Option V
  | [.nili, .iface 182 (.ptr _ _ _)] => some (.bool false)
  | [.iface 251 (.ext _), .iface 182 (.ptr _ _ _)] => if handOf G then some (.bool false) else none
  | _ => none
def extX (G : Nat → Option (List V)) (f : FuncId) (args : List V) : Option V := if f = 114 then isX G args else if f = 116 then asX G args else none
noncomputable def cfg (G : Nat → Option (List V)) : Cfg :=
  { P := Tryd.prog, G := G, kind := kindOf, X := extX G, S := sentOf G, Z := fun g => if g = 20 ∧ handOf G = true then some (.iface 219 (.agg #[.pointer (some ⟨24, 37, none⟩)])) else none }
end Go.Fv.Tr
