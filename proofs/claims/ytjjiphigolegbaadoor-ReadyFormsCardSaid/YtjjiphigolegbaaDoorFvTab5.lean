/-
  Looking up a process. By an AI agent; no person has read it.
-/
import Derived.Test.YtjjiphigolegbaaDoorFvTab3
set_option linter.unusedVariables false
set_option linter.unusedSimpArgs false
set_option linter.unusedSectionVars false
/-! Looking up a process. -/
namespace Go.Fv.Pl
theorem at?_some {ps : List Pr} {n : Int} {p : Pr} : at? ps n = some p ↔ 0 ≤ n ∧ ps[n.toNat]? = some p := by
  unfold at?
  by_cases h : 0 ≤ n
  · simp [h]
  · simp [h]
theorem at?_nat {ps : List Pr} {i : Nat} : at? ps (i : Nat) = ps[i]? := by simp [at?]
end Go.Fv.Pl
