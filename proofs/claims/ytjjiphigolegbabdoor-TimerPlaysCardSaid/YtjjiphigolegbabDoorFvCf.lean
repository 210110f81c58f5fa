/-
  The seat's program, and how its functions are called. By an AI agent; no person has read it.
-/
import Derived.Test.YtjjiphigolegbabDoorFvW4
import Derived.Test.YtjjiphigolegbabDoorProg
set_option linter.unusedVariables false
set_option linter.unusedSimpArgs false
set_option linter.unusedSectionVars false
/-! The seat's program, and how its functions are called. -/
namespace Go.Fv.Tr
open Go Go.Fv Go.Proofs

def pures : List Nat := [50, 51, 95, 120, 121, 122, 6, 48, 33, 32, 35, 61, 49, 36, 34, 60, 46, 58, 45, 47, 43, 44, 59, 55, 56, 15, 24, 16, 29, 28, 22, 23, 87, 88, 25, 82, 80, 73, 72, 100, 89, 90, 81, 26, 66, 67, 70, 108, 109, 105, 107, 110, 93, 96, 97, 129, 52, 53, 54, 37, 38, 39, 40, 41, 42, 77, 17, 18, 19, 20, 21, 63, 64, 65, 91, 101, 102, 103, 104, 27, 74, 31]
def owns : List Nat := [75, 85, 86, 71, 84, 78, 68, 79]
/-- errors.Is and errors.As, by their contracts. -/
def exts : List Nat := [99, 98]
def kindOf (f : FuncId) : Kind := if exts.contains f then .ext else if pures.contains f then .pure else if owns.contains f then .own else .inl
/-- Is the variable a sentinel of its own? -/
def sentOf (G : Nat → Option (List V)) (k : Nat) : Bool := match G k with
  | some [.iface 225 (.ext j)] => j == k
  | _ => false
def sentL : List Nat := [0, 1, 2, 3, 4, 5, 6, 7, 8, 9, 10, 11, 13, 14, 15, 16, 17, 18, 19, 20]
def isSent (g : Nat) : Bool := sentL.contains g
theorem sents_ok : isSent 0 = true ∧ isSent 1 = true ∧ isSent 2 = true ∧ isSent 3 = true ∧ isSent 4 = true ∧ isSent 5 = true ∧ isSent 6 = true ∧ isSent 7 = true ∧ isSent 8 = true ∧ isSent 9 = true ∧ isSent 10 = true ∧ isSent 11 = true ∧ isSent 13 = true ∧ isSent 14 = true ∧ isSent 15 = true ∧ isSent 16 = true ∧ isSent 17 = true ∧ isSent 18 = true ∧ isSent 19 = true ∧ isSent 20 = true := ⟨rfl, rfl, rfl, rfl, rfl, rfl, rfl, rfl, rfl, rfl, rfl, rfl, rfl, rfl, rfl, rfl, rfl, rfl, rfl, rfl⟩
/-- Is the variable errors.errorType laid? -/
def handOf (G : Nat → Option (List V)) : Bool := match G 12 with
  | some [] => true
  | _ => false
def isX (G : Nat → Option (List V)) : List V → Option V
  | [.nili, .iface 225 (.ext _)] => some (.bool false)
  | [.iface 225 (.ext i), .iface 225 (.ext j)] => if i == j then some (.bool true) else if sentOf G i && sentOf G j then some (.bool false) else none
  | _ => none
def asX (G : Nat → Option (List V)) : List V → Option V
  | [.nili, .iface 163 (.ptr _ _ _)] => some (.bool false)
  | [.iface 225 (.ext _), .iface 163 (.ptr _ _ _)] => if handOf G then some (.bool false) else none
  | _ => none
def extX (G : Nat → Option (List V)) (f : FuncId) (args : List V) : Option V := if f = 99 then isX G args else if f = 98 then asX G args else none
noncomputable def cfg (G : Nat → Option (List V)) : Cfg :=
  { P := Tryd.prog, G := G, kind := kindOf, X := extX G, S := sentOf G, Z := fun g => if g = 12 ∧ handOf G = true then some (.iface 208 (.agg #[.pointer (some ⟨21, 63, none⟩)])) else none }
end Go.Fv.Tr
