/-
  The seat's program, and how its functions are called. By an AI agent; no person has read it.
-/
import Derived.Test.YtgcjnpfidjfmmaaGreatDoorFvW4
import Derived.Test.YtgcjnpfidjfmmaaGreatDoorProg
set_option linter.unusedVariables false
set_option linter.unusedSimpArgs false
set_option linter.unusedSectionVars false
/-! The seat's program, and how its functions are called. -/
namespace Go.Fv.Tr
open Go Go.Fv Go.Proofs

def pures : List Nat := [35, 41, 94, 108, 109, 110, 29, 54, 56, 40, 37, 53, 80, 81, 82, 83, 75, 76, 79, 70, 72, 85, 92, 95, 96, 90, 31, 33, 36, 4, 5, 6, 7, 9, 8, 11]
def owns : List Nat := [50, 73, 68, 74, 55, 77]
def kindOf (f : FuncId) : Kind := if pures.contains f then .pure else if owns.contains f then .own else .inl
noncomputable def cfg (G : Nat → Option (List V)) : Cfg := { P := Tryz.prog, G := G, kind := kindOf, X := fun _ _ => none }
end Go.Fv.Tr
