/-
  Writing one row of a slice with memory of its own. By an AI agent; no person has read it.
-/
import Derived.Test.YtoogammidjhfgaaDoorFvW4
set_option linter.unusedVariables false
set_option linter.unusedSimpArgs false
set_option linter.unusedSectionVars false
/-! Writing one row of a slice with memory of its own. -/
namespace Go.Fv
open Go
theorem Own.put {H : Heap} {x : V} {sz l i : Nat} {b : Blk} {rows : List (List V)} (h : Own H x sz rows) (hl : loc x = some l) (hb : H.blk l = some b) (r : List V) : Own (H.set l ⟨b.sz, b.rows.set i r⟩) x sz (rows.set i r) := by
  rcases h with ⟨rfl | rfl, _⟩ | ⟨l', n, c, ex, b', rfl, h1, h2, h3, h4, h5, rfl⟩
  · cases hl
  · cases hl
  · cases hl
    rw [hb] at h1; cases h1
    exact .inr ⟨l, n, c, ex, _, rfl, by rw [Heap.set_blk, if_pos rfl], h2, h3, h4, by rw [List.length_set]; exact h5, by rw [List.take_set]⟩

theorem Heap.set_set {H : Heap} (l : Nat) (b b' : Blk) : (H.set l b).set l b' = H.set l b' := by
  unfold Heap.set
  congr 1
  funext x
  simp only
  split <;> rfl
end Go.Fv
