/-
  The seat's program, and how its functions are called. By an AI agent; no person has read it.
-/
import Derived.Test.YtjjiphigolegbaaDoorFvGen
import Derived.Test.YtjjiphigolegbaaDoorProg
set_option linter.unusedVariables false
set_option linter.unusedSimpArgs false
set_option linter.unusedSectionVars false
/-! The seat's program, and how its functions are called. -/
namespace Go.Fv.Tr
open Go Go.Fv Go.Proofs

def pures : List Nat := [119, 142, 143, 144, 15, 16, 17, 18, 19, 25, 26, 27, 40, 41, 42, 43, 44, 45, 46, 47, 48, 49, 50, 51, 39, 52, 53, 54, 55, 56, 57, 58, 59, 60, 61, 62, 63, 64, 65, 66, 88, 89, 115, 90, 91, 93, 94, 95, 96, 99, 100, 101, 102, 104, 113, 117, 120, 121, 122]
def owns : List Nat := [67, 72, 73, 74, 75, 92, 97]
def kindOf (f : FuncId) : Kind := if pures.contains f then .pure else if owns.contains f then .own else .inl
noncomputable def cfg (G : Nat → Option (List V)) : Cfg := { P := Tryd.prog, G := G, kind := kindOf, X := fun _ _ => none }
end Go.Fv.Tr
