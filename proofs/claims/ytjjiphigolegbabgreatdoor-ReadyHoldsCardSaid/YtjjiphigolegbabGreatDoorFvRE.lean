/-
  The shape of a script as an argument. By an AI agent; no person has read it.
-/
import Derived.Test.YtjjiphigolegbabGreatDoorFvW8
import Derived.Test.YtjjiphigolegbabGreatDoorFvSqN
set_option linter.unusedVariables false
set_option linter.unusedSimpArgs false
set_option linter.unusedSectionVars false
/-! The shape of a script as an argument. -/
namespace Go.Proofs.YtjjiphigolegbabGreatDoor
open Go Go.Fv Go.Fv.Pl Go.Fv.Tr Go.ChangeShapes Go.WideShapes Go.RowKit

theorem cellsOp : Tryz.prog.cellsOf 55 = 6 := by kernel_rfl
theorem len6 {α : Type} {l : List α} (h : l.length = 6) : ∃ a0 a1 a2 a3 a4 a5, l = [a0, a1, a2, a3, a4, a5] := by
  match l, h with
  | [a0, a1, a2, a3, a4, a5], _ => exact ⟨_, _, _, _, _, _, rfl⟩
set_option maxRecDepth 100000 in
theorem sh_op {n : Nat} {r : List V} (h : Sh Tryz.prog (n + 2) 55 r) : ∃ o : Op6, r = o.row ∧ True := by
  obtain ⟨h1, h2⟩ := sh_struct Tryz.underlying55 h
  rw [cellsOp] at h1
  obtain ⟨a0, a1, a2, a3, a4, a5, rfl⟩ := len6 h1
  simp [cells3, cells29] at h2
  obtain ⟨g0, g1, g2, g3, g4, g5⟩ := h2
  obtain ⟨m0, w0, e0⟩ := sh_int Tryz.underlying3 g0
  obtain ⟨m1, w1, e1⟩ := sh_int Tryz.underlying3 g1
  obtain ⟨m2, w2, e2⟩ := sh_int Tryz.underlying3 g2
  obtain ⟨m3, w3, e3⟩ := sh_int Tryz.underlying3 g3
  obtain ⟨m4, w4, e4⟩ := sh_int Tryz.underlying3 g4
  obtain ⟨m5, w5, e5⟩ := sh_int Tryz.underlying27 g5
  cases e0; cases e1; cases e2; cases e3; cases e4; cases e5
  exact ⟨⟨m0, m1, m2, m3, m4, m5⟩, rfl, trivial⟩
set_option maxRecDepth 100000 in
theorem sh_ops {n : Nat} {l : List V} (h : Sh Tryz.prog (n + 3) 49 l) : ∃ (x : V) (os : List Op6), l = [x] ∧ Sls x 6 (os.map Op6.row) ∧ os.length ≤ big := by
  obtain ⟨z, r3, e3, s3, l3, b3, q3⟩ := sh_slice Tryz.underlying49 h
  obtain ⟨os, rfl, w3⟩ := choose_map (f := Op6.row) fun r hr => sh_op (q3 r hr)
  rw [cellsOp] at s3
  rw [List.length_map] at l3
  exact ⟨z, os, e3, s3, l3⟩
theorem argVOps (x : V) : argV Tryz.prog 49 [x] = x := by
  unfold argV
  rw [Tryz.underlying49]
  rfl
theorem inOps : inTy Tryz.prog 5 49 = true := by kernel_rfl
end Go.Proofs.YtjjiphigolegbabGreatDoor
