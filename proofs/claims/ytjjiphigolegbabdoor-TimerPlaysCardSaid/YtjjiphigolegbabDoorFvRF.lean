/-
  The shape of a script of timers as an argument. By an AI agent; no person has read it.
-/
import Derived.Test.YtjjiphigolegbabDoorFvW8
import Derived.Test.YtjjiphigolegbabDoorFvSrF
set_option linter.unusedVariables false
set_option linter.unusedSimpArgs false
set_option linter.unusedSectionVars false
/-! The shape of a script of timers as an argument. -/
namespace Go.Proofs.YtjjiphigolegbabDoor
open Go Go.Fv Go.Fv.Pl Go.Fv.Tr Go.ChangeShapes Go.WideShapes Go.RowKit

theorem cellsOp3 : Tryd.prog.cellsOf 52 = 3 := by kernel_rfl
theorem cellsI : Tryd.prog.cellsOf 3 = 1 := by kernel_rfl
theorem len3' {α : Type} {l : List α} (h : l.length = 3) : ∃ a0 a1 a2, l = [a0, a1, a2] := by
  match l, h with
  | [a0, a1, a2], _ => exact ⟨_, _, _, rfl⟩
set_option maxRecDepth 100000 in
theorem sh_op3 {n : Nat} {r : List V} (h : Sh Tryd.prog (n + 2) 52 r) : ∃ o : Op3, r = o.row ∧ True := by
  obtain ⟨h1, h2⟩ := sh_struct Tryd.underlying52 h
  rw [cellsOp3] at h1
  obtain ⟨a0, a1, a2, rfl⟩ := len3' h1
  simp [cellsI] at h2
  obtain ⟨g0, g1, g2⟩ := h2
  obtain ⟨m0, w0, e0⟩ := sh_int Tryd.underlying3 g0
  obtain ⟨m1, w1, e1⟩ := sh_int Tryd.underlying3 g1
  obtain ⟨m2, w2, e2⟩ := sh_int Tryd.underlying3 g2
  cases e0; cases e1; cases e2
  exact ⟨⟨m0, m1, m2⟩, rfl, trivial⟩
set_option maxRecDepth 100000 in
theorem sh_ops3 {n : Nat} {l : List V} (h : Sh Tryd.prog (n + 3) 79 l) : ∃ (x : V) (os : List Op3), l = [x] ∧ Sls x 3 (os.map Op3.row) ∧ os.length ≤ big := by
  obtain ⟨z, r3, e3, s3, l3, b3, q3⟩ := sh_slice Tryd.underlying79 h
  obtain ⟨os, rfl, w3⟩ := choose_map (f := Op3.row) fun r hr => sh_op3 (q3 r hr)
  rw [cellsOp3] at s3
  rw [List.length_map] at l3
  exact ⟨z, os, e3, s3, l3⟩
theorem argVOps3 (x : V) : argV Tryd.prog 79 [x] = x := by
  unfold argV
  rw [Tryd.underlying79]
  rfl
theorem inOps3 : inTy Tryd.prog 5 79 = true := by kernel_rfl
end Go.Proofs.YtjjiphigolegbabDoor
