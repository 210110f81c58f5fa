/-
  The shape of a case as an argument. By an AI agent; no person has read it.
-/
import Derived.Test.YtjjiphigolegbaaDoorFvRC
set_option linter.unusedVariables false
set_option linter.unusedSimpArgs false
set_option linter.unusedSectionVars false
/-! The shape of a case as an argument. -/
namespace Go.Proofs.YtjjiphigolegbaaDoor
open Go Go.Fv Go.Fv.Pl Go.Fv.Tr Go.ChangeShapes Go.WideShapes Go.RowKit

theorem cells88 : Tryd.prog.cellsOf 88 = 11 := by kernel_rfl
theorem len11 {α : Type} {l : List α} (h : l.length = 11) : ∃ a0 a1 a2 a3 a4 a5 a6 a7 a8 a9 a10, l = [a0, a1, a2, a3, a4, a5, a6, a7, a8, a9, a10] := by
  match l, h with
  | [a0, a1, a2, a3, a4, a5, a6, a7, a8, a9, a10], _ => exact ⟨_, _, _, _, _, _, _, _, _, _, _, rfl⟩
set_option maxRecDepth 100000 in
theorem sh_u {n : Nat} {l : List V} (h : Sh Tryd.prog (n + 1) 29 l) : ∃ m : Int, l = [.int .u32 m] ∧ WfU m := by
  obtain ⟨m, hm, rfl⟩ := sh_int Tryd.underlying29 h
  exact ⟨m, rfl, hm⟩
set_option maxRecDepth 100000 in
theorem sh_case {n : Nat} {l : List V} (h : Sh Tryd.prog (n + 6) 88 l) : ∃ x y z t pr w o du pi st nw r1, l = [x, y, z, i64 pr, i64 w, i64 o, i64 du, i64 pi, i64 st, i64 nw, .int .u32 r1] ∧ IsTab x y z t ∧ WfTab t ∧
    WfI pr ∧ WfI w ∧ WfI o ∧ WfI du ∧ WfI pi ∧ WfI st ∧ WfI nw ∧ WfU r1 := by
  obtain ⟨h1, h2⟩ := sh_struct Tryd.underlying88 h
  rw [cells88] at h1
  obtain ⟨a0, a1, a2, a3, a4, a5, a6, a7, a8, a9, a10, rfl⟩ := len11 h1
  simp [cells26, cells3, cells29] at h2
  obtain ⟨g0, g1, g2, g3, g4, g5, g6, g7, g8⟩ := h2
  obtain ⟨x, y, z, t, e, ht, hw⟩ := sh_tab (n := n) g0
  cases e
  obtain ⟨m1, e1, w1⟩ := sh_i (n := n + 4) g1
  obtain ⟨m2, e2, w2⟩ := sh_i (n := n + 4) g2
  obtain ⟨m3, e3, w3⟩ := sh_i (n := n + 4) g3
  obtain ⟨m4, e4, w4⟩ := sh_i (n := n + 4) g4
  obtain ⟨m5, e5, w5⟩ := sh_i (n := n + 4) g5
  obtain ⟨m6, e6, w6⟩ := sh_i (n := n + 4) g6
  obtain ⟨m7, e7, w7⟩ := sh_i (n := n + 4) g7
  obtain ⟨m8, e8, w8⟩ := sh_u (n := n + 4) g8
  cases e1; cases e2; cases e3; cases e4; cases e5; cases e6; cases e7; cases e8
  exact ⟨_, _, _, t, _, _, _, _, _, _, _, _, rfl, ht, hw, w1, w2, w3, w4, w5, w6, w7, w8⟩
theorem argV88 (l : List V) : argV Tryd.prog 88 l = .agg l := by
  unfold argV
  rw [Tryd.underlying88]
theorem in88 : inTy Tryd.prog 6 88 = true := by kernel_rfl
theorem reach_room {n : Nat} (h : n ≤ reachBytes) : n ≤ room := by
  have : reachBytes ≤ room := by decide
  omega
end Go.Proofs.YtjjiphigolegbaaDoor
