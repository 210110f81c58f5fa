/-
  The law TimerSteps, run to its end. By an AI agent; no person has read it.
-/
import Derived.Test.YtjjiphigolegbabDoorFvSpO
set_option linter.unusedVariables false
set_option linter.unusedSimpArgs false
set_option linter.unusedSectionVars false
/-! The law TimerSteps, run to its end. -/
namespace Go.Fv.Tr
open Go Go.Fv Go.Fv.Pl Go.Proofs
set_option linter.unusedSimpArgs false
set_option linter.unusedVariables false
variable {G : Nat → Option (List V)}

theorem sls_thaw {x : V} {sz : Nat} {rows : List (List V)} (h : Sls x sz rows) (H : Heap) : thawV true H x = some x := by
  rcases h with rfl | ⟨_, rfl | rfl⟩ <;> simp [thawV, thaw, V.flat, V.closed]
theorem copied_eq (n : Nat) {x : V} {ts : List Tm} (hx : Sls x 2 (ts.map tmRow)) (hl : ts.length ≤ 8) : ∃ r, callV (cfg G) (sem (cfg G) (n + 1)) 16 [x] = M.ret r ∧ Sls r 2 (ts.map tmRow) :=
  (copied08_spec n hx (flat_tm _) (by rw [List.length_map]; unfold room; omega)).eq rfl (by simp [hx.closedV])
theorem fire_eq (hG : TErrs G) (n : Nat) {x : V} {ts : List Tm} (hx : Sls x 2 (ts.map tmRow)) (hok : TsOk 8 ts) (now : Int) :
    ∃ y z, callV (cfg G) (sem (cfg G) (n + 5)) 24 [x, .int .i64 now] = M.ret (.tuple [y, z, .nili]) ∧ Sls y 1 ((dues ts now).map intRow) ∧ Sls z 2 ((left ts now).map tmRow) := by
  have h8 := ts_len8 hok
  obtain ⟨r, e, h⟩ := (fire_spec hG n hx (by unfold big; omega) now).eq rfl (by simp [hx.closedV, cI])
  rcases h with ⟨_, y, z, rfl, h1, h2⟩ | ⟨h, _⟩
  · exact ⟨y, z, e, h1, h2⟩
  · exact absurd hok h

end Go.Fv.Tr
