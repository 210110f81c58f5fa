/-
  The law ReadyForms, run to its end. By an AI agent; no person has read it.
-/
import Derived.Test.YtjjiphigolegbabGreatDoorFvSpJ
set_option linter.unusedVariables false
set_option linter.unusedSimpArgs false
set_option linter.unusedSectionVars false
/-! The law ReadyForms, run to its end. -/
namespace Go.Fv.Tr
open Go Go.Fv Go.Fv.Pl Go.Proofs
set_option linter.unusedSimpArgs false
set_option linter.unusedVariables false
variable {G : Nat → Option (List V)}

def rpick (t : Tab) : V :=
  if TabOk t then (match t.q with | [] => .tuple [.int .i64 0, .int .i64 17] | b :: _ => .tuple [.int .i64 (best (prio t.ps) b t.q), .int .i64 0]) else .tuple [.int .i64 0, .int .i64 9]
theorem best_one (f : Int → Int) {q : List Int} (h : 0 < q.length) : best f (q.headD 0) (q.take 1) = q[0] := by
  cases q with
  | nil => simp at h
  | cons b q => simp [best]
def badT : Tab := { ps := [], q := [0], ts := [] }
theorem bad_tab : IsTab .nils (.imm 1 (badT.q.map intRow)) .nils badT := ⟨Sls.nils _, Sls.imm _ _, Sls.nils _, by simp [badT], by decide⟩
theorem bad_not : ¬ TabOk badT := fun h => absurd (h.q.1 0 (by simp [badT])) (by decide)

end Go.Fv.Tr
