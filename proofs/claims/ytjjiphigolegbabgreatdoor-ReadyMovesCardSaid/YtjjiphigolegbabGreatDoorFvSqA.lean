/-
  What the functions of the layer 9 answer: Best. By an AI agent; no person has read it.
-/
import Derived.Test.YtjjiphigolegbabGreatDoorFvSpZ
set_option linter.unusedVariables false
set_option linter.unusedSimpArgs false
set_option linter.unusedSectionVars false
/-! What the functions of the layer 9 answer: Best. -/
namespace Go.Fv.Tr
open Go Go.Fv Go.Fv.Pl Go.Proofs
set_option linter.unusedSimpArgs false
set_option linter.unusedVariables false
variable {G : Nat → Option (List V)}

def bestV (t : Tab) (w o : Int) : V := if TabOk t then (match wt t.ps w o with | [] => .tuple [i64 0, errV 2] | b :: _ => .tuple [i64 (best (prio t.ps) b (wt t.ps w o)), .nili]) else .tuple [i64 0, errV 1]
def rbestV (t : Tab) (w o : Int) : V := if TabOk t then (match wt t.ps w o with | [] => .tuple [i64 0, i64 17] | b :: _ => .tuple [i64 (best (prio t.ps) b (wt t.ps w o)), i64 0]) else .tuple [i64 0, i64 9]

theorem wt_at {t : Tab} {w o : Int} : ∀ m ∈ wt t.ps w o, 0 ≤ m ∧ ∃ p, at? t.ps m = some p ∧ prio t.ps m = p.prio := fun m hm => by
  obtain ⟨p, hp, _⟩ := mem_wt.1 hm
  exact ⟨(at?_lt hp).1, p, hp, by simp [prio, hp]⟩

end Go.Fv.Tr
