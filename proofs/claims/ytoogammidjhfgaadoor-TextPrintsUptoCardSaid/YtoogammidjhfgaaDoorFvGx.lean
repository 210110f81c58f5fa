/-
  What is laid, as the plain meaning sees it. By an AI agent; no person has read it.
-/
import Derived.Test.YtoogammidjhfgaaDoorFvCf
set_option linter.unusedVariables false
set_option linter.unusedSimpArgs false
set_option linter.unusedSectionVars false
/-! What is laid, as the plain meaning sees it. -/
namespace Go.Fv.Tr
open Go Go.Fv Go.Proofs
def errV (g : Nat) : V := .iface 341 (.ext g)
def GX : Nat → Option (List V) := fun g => if isSent g = true then some [errV g] else if g = 20 then some [] else if g = 22 then some [] else none
end Go.Fv.Tr
