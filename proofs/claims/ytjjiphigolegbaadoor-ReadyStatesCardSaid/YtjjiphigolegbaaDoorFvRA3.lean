/-
  The listed sentinels of some rows. By an AI agent; no person has read it.
-/
import Derived.Test.YtjjiphigolegbaaDoorFvW8
import Derived.Test.YtjjiphigolegbaaDoorFvW6
set_option linter.unusedVariables false
set_option linter.unusedSimpArgs false
set_option linter.unusedSectionVars false
/-! The listed sentinels of some rows. -/
namespace Go.Proofs.YtjjiphigolegbaaDoor
open Go Go.Fv Go.Fv.Pl Go.Fv.Tr Go.ChangeShapes Go.WideShapes Go.RowKit

def G3 : Nat → Option (List V) := fun g => if g ∈ ([0, 2, 1] : List Nat) then some [errV g] else none
theorem errs3 : Errs G3 := ⟨rfl, rfl, rfl⟩
abbrev laid3 : List (String × DataW Unit) := [("ferry/api.ErrState", Rows.laid_ferry_api_ErrState), ("ferry/api.ErrArg", Rows.laid_ferry_api_ErrArg), ("ferry/api.ErrNone", Rows.laid_ferry_api_ErrNone)]
def txt3 (g : Nat) : List UInt8 := if g = 0 then [116, 104, 101, 32, 115, 116, 97, 116, 101, 32, 98, 114, 101, 97, 107, 115, 32, 97, 32, 114, 117, 108, 101] else if g = 2 then [97, 32, 119, 114, 111, 110, 103, 32, 97, 114, 103, 117, 109, 101, 110, 116] else if g = 1 then [116, 104, 101, 114, 101, 32, 105, 115, 32, 110, 111, 110, 101] else []
theorem gn3_0 : Tryd.prog.globalNamed "ferry/api.ErrState" = some 0 := by kernel_rfl
theorem gt3_0 : (Tryd.prog.globals[0]?).map (·.type) = some 37 := by kernel_rfl
theorem gn3_2 : Tryd.prog.globalNamed "ferry/api.ErrArg" = some 2 := by kernel_rfl
theorem gt3_2 : (Tryd.prog.globals[2]?).map (·.type) = some 37 := by kernel_rfl
theorem gn3_1 : Tryd.prog.globalNamed "ferry/api.ErrNone" = some 1 := by kernel_rfl
theorem gt3_1 : (Tryd.prog.globals[1]?).map (·.type) = some 37 := by kernel_rfl
theorem each3 {W : World} (hm : laidMet Tryd.prog laid3 W) : ∀ g, g ∈ ([0, 2, 1] : List Nat) → ∃ a, W.cell? ⟨g, 0, none⟩ = some (.iface 251 (.pointer (some a))) ∧ (∃ s : ByteArray, W.cell? a = some (.string s) ∧ s.data.toList = txt3 g) ∧ ∃ cs t, W.heap[a.block]? = some (Obj.cells cs t (0, 0)) := by
  intro g hg
  have hc : g = 0 ∨ g = 2 ∨ g = 1 := by simpa using hg
  rcases hc with rfl | rfl | rfl
  · exact sent hm (text := txt3 0) (List.mem_of_getElem? (i := 0) rfl) gn3_0 gt3_0
  · exact sent hm (text := txt3 2) (List.mem_of_getElem? (i := 1) rfl) gn3_2 gt3_2
  · exact sent hm (text := txt3 1) (List.mem_of_getElem? (i := 2) rfl) gn3_1 gt3_1
theorem txt_inj3 : ∀ i, i ∈ ([0, 2, 1] : List Nat) → ∀ j, j ∈ ([0, 2, 1] : List Nat) → txt3 i = txt3 j → i = j := by decide
theorem sent_of3 {k : Nat} (h : sentOf G3 k = true) : k ∈ ([0, 2, 1] : List Nat) := by
  unfold sentOf G3 at h
  by_cases e : k ∈ ([0, 2, 1] : List Nat)
  · exact e
  · rw [if_neg e] at h; simp at h
open Classical in
theorem glob3 {W : World} (h : laidMetH Tryd.prog laid3 W) : ∃ σ, Apart G3 σ ∧ GlobOk (cfg G3) σ (K0 W) W := by
  have he := each3 (show laidMet Tryd.prog laid3 W from h)
  refine ⟨fun k => if hk : k ∈ ([0, 2, 1] : List Nat) then (he k hk).choose else ⟨0, 0, none⟩, fun i j hi hj hne heq => ?_, ⟨fun g row hg => ?_, fun k hk => ?_, fun g v hg => ?_, fun g cs hg => ?_⟩⟩
  · have hi := sent_of3 hi
    have hj := sent_of3 hj
    simp only [dif_pos hi, dif_pos hj] at heq
    obtain ⟨_, ⟨s1, c1, t1⟩, _⟩ := (he i hi).choose_spec
    obtain ⟨_, ⟨s2, c2, t2⟩, _⟩ := (he j hj).choose_spec
    rw [heq, c2] at c1
    cases c1
    exact hne (txt_inj3 i hi j hj (t1.symm.trans t2))
  · have hg : G3 g = some row := hg
    unfold G3 at hg
    split at hg
    · rename_i hlt
      cases hg
      refine sent_rel ?_
      simp only [dif_pos hlt]
      exact (he g hlt).choose_spec.1
    · cases hg
  · have hk := sent_of3 hk
    simp only [dif_pos hk]
    obtain ⟨cs, t, hh⟩ := (he k hk).choose_spec.2.2
    exact ⟨(Array.getElem?_eq_some_iff.1 hh).1, cs, t, hh⟩
  · have hg : (if g = 20 ∧ handOf G3 = true then some (Value.iface 219 (.agg #[.pointer (some ⟨24, 37, none⟩)])) else none) = some v := hg
    rw [if_neg (fun e => by have := e.2; simp [handOf, G3] at this)] at hg
    cases hg
  · first | cases hg | (have ht : tabOf G3 = false := rfl; unfold cfg at hg; simp [ht] at hg)

noncomputable def low3 : Nat := (World.holding Tryd.prog default ⟨#[], #[], []⟩).heap.size
def pos3 (i : Nat) : Option Nat := if i = 0 then some 0 else if i = 2 then some 1 else if i = 1 then some 2 else none
/-- A world in which all are laid. -/
noncomputable def laidWorld3 (os : Os) : World :=
  let w0 := World.holding Tryd.prog os ⟨(([0, 2, 1] : List Nat).map fun g => Obj.cells #[.string ⟨(txt3 g).toArray⟩] 270 (0, 0)).toArray, #[], []⟩
  { w0 with heap := ((List.range w0.heap.size).map fun i => match w0.heap.getD i default with
      | .cells cs t frozen => (match pos3 i with | some k => .cells #[.iface 251 (.pointer (some ⟨low3 + k, 0, none⟩))] t frozen | none => .cells cs t frozen)
      | o => o).toArray }
theorem laid_met3 (os : Os) (args : Array Value) : laidMetH Tryd.prog laid3 ((laidWorld3 os).forCall (fun _ _ => 0) ⟨#[], args, []⟩).memory :=
  laidMetH_of_parts (laidMet_of_run (ps := [.cell 0 0, .cell (low3 + 0) 0, .cell 2 0, .cell (low3 + 1) 0, .cell 1 0, .cell (low3 + 2) 0]) 8 (by kernel_rfl) (by kernel_rfl) (by kernel_rfl)) (by kernel_rfl)
end Go.Proofs.YtjjiphigolegbaaDoor
