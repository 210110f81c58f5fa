/-
  The seat's program, and how its functions are called. By an AI agent; no person has read it.
-/
import Derived.Test.YtjjiphigolegbabGreatDoorFvW4
import Derived.Test.YtjjiphigolegbabGreatDoorProg
set_option linter.unusedVariables false
set_option linter.unusedSimpArgs false
set_option linter.unusedSectionVars false
/-! The seat's program, and how its functions are called. -/
namespace Go.Fv.Tr
open Go Go.Fv Go.Proofs

def pures : List Nat := [15, 16, 73, 91, 92, 93, 5, 20, 13, 21, 12, 36, 25, 28, 27, 22, 24, 64, 42, 14, 43, 65, 37, 44, 45, 39, 32, 40, 41, 62, 46, 47, 33, 52, 53, 56, 59, 60, 48, 51, 58, 71, 74, 75, 66, 17, 18, 19, 6, 7, 8, 9, 10, 11, 29, 23, 26]
def owns : List Nat := [34, 67, 68, 69, 49, 30, 54, 31]
/-- errors.Is and errors.As, by their contracts. -/
def exts : List Nat := [61, 63]
def kindOf (f : FuncId) : Kind := if exts.contains f then .ext else if pures.contains f then .pure else if owns.contains f then .own else .inl
/-- Is the variable a sentinel of its own? -/
def sentOf (G : Nat → Option (List V)) (k : Nat) : Bool := match G k with
  | some [.iface 172 (.ext j)] => j == k
  | _ => false
def sentL : List Nat := [0, 1, 2, 3, 4, 5, 6, 7, 8, 9, 10, 11, 12, 13, 14, 15, 16, 17, 18, 19]
def isSent (g : Nat) : Bool := sentL.contains g
theorem sents_ok : isSent 0 = true ∧ isSent 1 = true ∧ isSent 2 = true ∧ isSent 3 = true ∧ isSent 4 = true ∧ isSent 5 = true ∧ isSent 6 = true ∧ isSent 7 = true ∧ isSent 8 = true ∧ isSent 9 = true ∧ isSent 10 = true ∧ isSent 11 = true ∧ isSent 12 = true ∧ isSent 13 = true ∧ isSent 14 = true ∧ isSent 15 = true ∧ isSent 16 = true ∧ isSent 17 = true ∧ isSent 18 = true ∧ isSent 19 = true := ⟨rfl, rfl, rfl, rfl, rfl, rfl, rfl, rfl, rfl, rfl, rfl, rfl, rfl, rfl, rfl, rfl, rfl, rfl, rfl, rfl⟩
/-- Is the variable errors.errorType laid? -/
def handOf (G : Nat → Option (List V)) : Bool := match G 20 with
  | some [] => true
  | _ => false
def isX (G : Nat → Option (List V)) : List V → Option V
  | [.nili, .iface 172 (.ext _)] => some (.bool false)
  | [.iface 172 (.ext i), .iface 172 (.ext j)] => if i == j then some (.bool true) else if sentOf G i && sentOf G j then some (.bool false) else none
  | _ => none
def asX (G : Nat → Option (List V)) : List V → Option V
  | [.nili, .iface 106 (.ptr _ _ _)] => some (.bool false)
  | [.iface 172 (.ext _), .iface 106 (.ptr _ _ _)] => if handOf G then some (.bool false) else none
  | _ => none
def extX (G : Nat → Option (List V)) (f : FuncId) (args : List V) : Option V := if f = 61 then isX G args else if f = 63 then asX G args else none
noncomputable def cfg (G : Nat → Option (List V)) : Cfg :=
  { P := Tryz.prog, G := G, kind := kindOf, X := extX G, S := sentOf G, Z := fun g => if g = 20 ∧ handOf G = true then some (.iface 148 (.agg #[.pointer (some ⟨21, 39, none⟩)])) else none }
end Go.Fv.Tr
