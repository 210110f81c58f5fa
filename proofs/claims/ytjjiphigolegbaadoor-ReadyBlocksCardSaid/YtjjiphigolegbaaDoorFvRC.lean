/-
  The shapes of lists of timers and of numbers as arguments. By an AI agent; no person has read it.
-/
import Derived.Test.YtjjiphigolegbaaDoorFvRB
set_option linter.unusedVariables false
set_option linter.unusedSimpArgs false
set_option linter.unusedSectionVars false
/-! The shapes of lists of timers and of numbers as arguments. -/
namespace Go.Proofs.YtjjiphigolegbaaDoor
open Go Go.Fv Go.Fv.Pl Go.Fv.Tr Go.ChangeShapes Go.WideShapes Go.RowKit

section
variable {P : Program} {n : Nat}
theorem shs1 {t1 : TypeId} {xs : List V} (h : Shs P n [t1] xs) : ∃ a, xs = [a] ∧ ∃ l, Sh P n t1 l ∧ a = argV P t1 l := by
  cases xs with
  | nil => exact h.elim
  | cons a xs => cases xs with
    | nil => exact ⟨a, rfl, h.1⟩
    | cons b xs => exact h.2.elim
theorem shs2 {t1 t2 : TypeId} {xs : List V} (h : Shs P n [t1, t2] xs) : ∃ a b, xs = [a, b] ∧ (∃ l, Sh P n t1 l ∧ a = argV P t1 l) ∧ ∃ l, Sh P n t2 l ∧ b = argV P t2 l := by
  cases xs with
  | nil => exact h.elim
  | cons a xs =>
    obtain ⟨b, rfl, h2⟩ := shs1 (P := P) (n := n) (t1 := t2) (xs := xs) h.2
    exact ⟨a, b, rfl, h.1, h2⟩
theorem shs3 {t1 t2 t3 : TypeId} {xs : List V} (h : Shs P n [t1, t2, t3] xs) : ∃ a b c, xs = [a, b, c] ∧ (∃ l, Sh P n t1 l ∧ a = argV P t1 l) ∧ (∃ l, Sh P n t2 l ∧ b = argV P t2 l) ∧ ∃ l, Sh P n t3 l ∧ c = argV P t3 l := by
  cases xs with
  | nil => exact h.elim
  | cons a xs =>
    obtain ⟨b, c, rfl, h2, h3⟩ := shs2 (P := P) (n := n) (t1 := t2) (t2 := t3) (xs := xs) h.2
    exact ⟨a, b, c, rfl, h.1, h2, h3⟩
end
set_option maxRecDepth 100000 in
theorem sh_ts {n : Nat} {l : List V} (h : Sh Tryd.prog (n + 3) 24 l) : ∃ (x : V) (ts : List Tm), l = [x] ∧ Sls x 2 (ts.map tmRow) ∧ ts.length ≤ big ∧ ts.length * 16 ≤ reachBytes ∧ ∀ t ∈ ts, WfI t.proc ∧ WfI t.due := by
  obtain ⟨z, r3, e3, s3, l3, b3, q3⟩ := sh_slice Tryd.underlying24 h
  obtain ⟨ts, rfl, w3⟩ := choose_map (f := tmRow) fun r hr => sh_tm (q3 r hr)
  rw [cells82] at s3
  rw [List.length_map] at l3 b3
  rw [bytes82] at b3
  exact ⟨z, ts, e3, s3, l3, b3, w3⟩
set_option maxRecDepth 100000 in
theorem sh_i {n : Nat} {l : List V} (h : Sh Tryd.prog (n + 1) 3 l) : ∃ m : Int, l = [.int .i64 m] ∧ WfI m := by
  obtain ⟨m, hm, rfl⟩ := sh_int Tryd.underlying3 h
  exact ⟨m, rfl, hm⟩
theorem argV24 (x : V) : argV Tryd.prog 24 [x] = x := by
  unfold argV
  rw [Tryd.underlying24]
  rfl
theorem argV3 (x : V) : argV Tryd.prog 3 [x] = x := by
  unfold argV
  rw [Tryd.underlying3]
  rfl
theorem in24 : inTy Tryd.prog 5 24 = true := by kernel_rfl
theorem in3 : inTy Tryd.prog 5 3 = true := by kernel_rfl
theorem wfI_iff {m : Int} : WfI m ↔ -9223372036854775808 ≤ m ∧ m ≤ 9223372036854775807 := by
  unfold WfI Lit.wf IntKind.min IntKind.max
  simp [IntKind.signed, IntKind.bits]
end Go.Proofs.YtjjiphigolegbaaDoor
