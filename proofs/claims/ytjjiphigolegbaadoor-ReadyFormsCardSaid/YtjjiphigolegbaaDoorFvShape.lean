/-
  From what a type's cells look like to plain data. By an AI agent; no person has read it.
-/
import Derived.Test.YtjjiphigolegbaaDoorFvEntry
import Derived.Test.YtjjiphigolegbaaDoorFvSpec
set_option linter.unusedVariables false
set_option linter.unusedSimpArgs false
set_option linter.unusedSectionVars false
/-! From what a type's cells look like to plain data. -/
namespace Go.Fv
open Go

section
variable {P : Program} {n : Nat} {t e : TypeId} {vs : List V}
theorem sh_int {k : IntKind} (hu : P.underlying t = some (.int k)) (h : Sh P (n + 1) t vs) : ∃ m, (Lit.int k m).wf = true ∧ vs = [.int k m] := by
  simp only [Sh, hu] at h; exact h
theorem sh_bool (hu : P.underlying t = some .bool) (h : Sh P (n + 1) t vs) : ∃ b, vs = [.bool b] := by
  simp only [Sh, hu] at h; exact h
theorem sh_str (hu : P.underlying t = some .string) (h : Sh P (n + 1) t vs) : ∃ s : ByteArray, s.size ≤ reachBytes ∧ vs = [.str s] := by
  simp only [Sh, hu] at h; exact h
theorem sh_slice (hu : P.underlying t = some (.slice e)) (h : Sh P (n + 1) t vs) : ∃ x rows, vs = [x] ∧ Sls x (P.cellsOf e) rows ∧ rows.length ≤ maxLen ∧ rows.length * P.bytesOf e ≤ reachBytes ∧ ∀ r ∈ rows, Sh P n e r := by
  simp only [Sh, hu] at h
  rcases h with rfl | ⟨rows, rfl, h1, h2⟩
  · exact ⟨.nils, [], rfl, Sls.nils _, by simp, by simp, by simp⟩
  · exact ⟨_, rows, rfl, Sls.imm _ _, h1.1, h1.2, h2⟩
theorem sh_struct {fs : Array Field} (hu : P.underlying t = some (.struct fs)) (h : Sh P (n + 1) t vs) : vs.length = P.cellsOf t ∧ ∀ f ∈ fs.toList, Sh P n f.type ((vs.drop f.offset).take (P.cellsOf f.type)) := by
  simp only [Sh, hu] at h; exact h
theorem sh_array {k : Nat} (hu : P.underlying t = some (.array k e)) (h : Sh P (n + 1) t vs) : vs.length = P.cellsOf t ∧ ∀ i, i < k → Sh P n e ((vs.drop (i * P.cellsOf e)).take (P.cellsOf e)) := by
  simp only [Sh, hu] at h; exact h

theorem choose_map {α β : Type} {f : α → β} {W : α → Prop} : ∀ {l : List β}, (∀ r ∈ l, ∃ p, r = f p ∧ W p) → ∃ ps : List α, l = ps.map f ∧ ∀ p ∈ ps, W p
  | [], _ => ⟨[], rfl, by simp⟩
  | r :: l, h => by
    obtain ⟨p, rfl, hp⟩ := h r (by simp)
    obtain ⟨ps, rfl, hps⟩ := choose_map (l := l) fun r hr => h r (by simp [hr])
    exact ⟨p :: ps, rfl, by simpa using ⟨hp, hps⟩⟩
/-- An array of numbers. -/
theorem sh_ints {k : Nat} {kk : IntKind} (hu : P.underlying t = some (.array k e)) (he : P.underlying e = some (.int kk)) (hc : P.cellsOf e = 1) (hk : P.cellsOf t = k) (h : Sh P (n + 2) t vs) :
    ∃ l : List Int, l.length = k ∧ vs = l.map (fun m => V.int kk m) ∧ ∀ m ∈ l, (Lit.int kk m).wf = true := by
  obtain ⟨h1, h2⟩ := sh_array hu h
  have each : ∀ v ∈ vs, ∃ m, v = V.int kk m ∧ (Lit.int kk m).wf = true := fun v hv => by
    obtain ⟨i, hi, rfl⟩ := List.getElem_of_mem hv
    obtain ⟨m, hm, e⟩ := sh_int he (h2 i (by omega))
    rw [hc, Nat.mul_one, List.drop_eq_getElem_cons hi, List.take_succ_cons, List.take_zero] at e
    exact ⟨m, (List.cons.inj e).1, hm⟩
  obtain ⟨l, rfl, hl⟩ := choose_map each
  exact ⟨l, by simpa [hk] using h1, rfl, hl⟩
theorem len3 {α : Type} {l : List α} (h : l.length = 3) : ∃ a b c, l = [a, b, c] := by
  match l, h with
  | [a, b, c], _ => exact ⟨a, b, c, rfl⟩
theorem len2 {α : Type} {l : List α} (h : l.length = 2) : ∃ a b, l = [a, b] := by
  match l, h with
  | [a, b], _ => exact ⟨a, b, rfl⟩
end
end Go.Fv
