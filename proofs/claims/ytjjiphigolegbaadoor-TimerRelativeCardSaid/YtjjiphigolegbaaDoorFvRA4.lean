/-
  The listed sentinels of some rows. By an AI agent; no person has read it.
-/
import Derived.Test.YtjjiphigolegbaaDoorFvRB
import Derived.Test.YtjjiphigolegbaaDoorFvRX
import Derived.Test.YtjjiphigolegbaaDoorFvSpL
set_option linter.unusedVariables false
set_option linter.unusedSimpArgs false
set_option linter.unusedSectionVars false
/-! The listed sentinels of some rows. -/
namespace Go.Proofs.YtjjiphigolegbaaDoor
open Go Go.Fv Go.Fv.Pl Go.Fv.Tr Go.ChangeShapes Go.WideShapes Go.RowKit

def G4 : Nat → Option (List V) := fun g => if g ∈ ([6, 0, 2] : List Nat) then some [errV g] else none
theorem terrs4 : TErrs G4 := ⟨rfl, rfl, rfl⟩
abbrev laid4 : List (String × DataW Unit) := [("ferry/api.ErrRange", Rows.laid_ferry_api_ErrRange), ("ferry/api.ErrState", Rows.laid_ferry_api_ErrState), ("ferry/api.ErrArg", Rows.laid_ferry_api_ErrArg)]
def txt4 (g : Nat) : List UInt8 := if g = 6 then [97, 32, 110, 117, 109, 98, 101, 114, 32, 111, 117, 116, 32, 111, 102, 32, 105, 116, 115, 32, 114, 97, 110, 103, 101] else if g = 0 then [116, 104, 101, 32, 115, 116, 97, 116, 101, 32, 98, 114, 101, 97, 107, 115, 32, 97, 32, 114, 117, 108, 101] else if g = 2 then [97, 32, 119, 114, 111, 110, 103, 32, 97, 114, 103, 117, 109, 101, 110, 116] else []
theorem gn4_6 : Tryd.prog.globalNamed "ferry/api.ErrRange" = some 6 := by kernel_rfl
theorem gt4_6 : (Tryd.prog.globals[6]?).map (·.type) = some 37 := by kernel_rfl
theorem gn4_0 : Tryd.prog.globalNamed "ferry/api.ErrState" = some 0 := by kernel_rfl
theorem gt4_0 : (Tryd.prog.globals[0]?).map (·.type) = some 37 := by kernel_rfl
theorem gn4_2 : Tryd.prog.globalNamed "ferry/api.ErrArg" = some 2 := by kernel_rfl
theorem gt4_2 : (Tryd.prog.globals[2]?).map (·.type) = some 37 := by kernel_rfl
theorem each4 {W : World} (hm : laidMet Tryd.prog laid4 W) : ∀ g, g ∈ ([6, 0, 2] : List Nat) → ∃ a, W.cell? ⟨g, 0, none⟩ = some (.iface 251 (.pointer (some a))) ∧ (∃ s : ByteArray, W.cell? a = some (.string s) ∧ s.data.toList = txt4 g) ∧ ∃ cs t, W.heap[a.block]? = some (Obj.cells cs t (0, 0)) := by
  intro g hg
  have hc : g = 6 ∨ g = 0 ∨ g = 2 := by simpa using hg
  rcases hc with rfl | rfl | rfl
  · exact sent hm (text := txt4 6) (List.mem_of_getElem? (i := 0) rfl) gn4_6 gt4_6
  · exact sent hm (text := txt4 0) (List.mem_of_getElem? (i := 1) rfl) gn4_0 gt4_0
  · exact sent hm (text := txt4 2) (List.mem_of_getElem? (i := 2) rfl) gn4_2 gt4_2
theorem txt_inj4 : ∀ i, i ∈ ([6, 0, 2] : List Nat) → ∀ j, j ∈ ([6, 0, 2] : List Nat) → txt4 i = txt4 j → i = j := by decide
theorem sent_of4 {k : Nat} (h : sentOf G4 k = true) : k ∈ ([6, 0, 2] : List Nat) := by
  unfold sentOf G4 at h
  by_cases e : k ∈ ([6, 0, 2] : List Nat)
  · exact e
  · rw [if_neg e] at h; simp at h
open Classical in
theorem glob4 {W : World} (h : laidMetH Tryd.prog laid4 W) : ∃ σ, Apart G4 σ ∧ GlobOk (cfg G4) σ (K0 W) W := by
  have he := each4 (show laidMet Tryd.prog laid4 W from h)
  refine ⟨fun k => if hk : k ∈ ([6, 0, 2] : List Nat) then (he k hk).choose else ⟨0, 0, none⟩, fun i j hi hj hne heq => ?_, ⟨fun g row hg => ?_, fun k hk => ?_, fun g v hg => ?_⟩⟩
  · have hi := sent_of4 hi
    have hj := sent_of4 hj
    simp only [dif_pos hi, dif_pos hj] at heq
    obtain ⟨_, ⟨s1, c1, t1⟩, _⟩ := (he i hi).choose_spec
    obtain ⟨_, ⟨s2, c2, t2⟩, _⟩ := (he j hj).choose_spec
    rw [heq, c2] at c1
    cases c1
    exact hne (txt_inj4 i hi j hj (t1.symm.trans t2))
  · have hg : G4 g = some row := hg
    unfold G4 at hg
    split at hg
    · rename_i hlt
      cases hg
      refine sent_rel ?_
      simp only [dif_pos hlt]
      exact (he g hlt).choose_spec.1
    · cases hg
  · have hk := sent_of4 hk
    simp only [dif_pos hk]
    obtain ⟨cs, t, hh⟩ := (he k hk).choose_spec.2.2
    exact ⟨(Array.getElem?_eq_some_iff.1 hh).1, cs, t, hh⟩
  · have hg : (if g = 20 ∧ handOf G4 = true then some (Value.iface 219 (.agg #[.pointer (some ⟨24, 37, none⟩)])) else none) = some v := hg
    rw [if_neg (fun e => by have := e.2; simp [handOf, G4] at this)] at hg
    cases hg

noncomputable def low4 : Nat := (World.holding Tryd.prog default ⟨#[], #[], []⟩).heap.size
def pos4 (i : Nat) : Option Nat := if i = 6 then some 0 else if i = 0 then some 1 else if i = 2 then some 2 else none
/-- A world in which all are laid. -/
noncomputable def laidWorld4 (os : Os) : World :=
  let w0 := World.holding Tryd.prog os ⟨(([6, 0, 2] : List Nat).map fun g => Obj.cells #[.string ⟨(txt4 g).toArray⟩] 270 (0, 0)).toArray, #[], []⟩
  { w0 with heap := ((List.range w0.heap.size).map fun i => match w0.heap.getD i default with
      | .cells cs t frozen => (match pos4 i with | some k => .cells #[.iface 251 (.pointer (some ⟨low4 + k, 0, none⟩))] t frozen | none => .cells cs t frozen)
      | o => o).toArray }
theorem laid_met4 (os : Os) (args : Array Value) : laidMetH Tryd.prog laid4 ((laidWorld4 os).forCall (fun _ _ => 0) ⟨#[], args, []⟩).memory :=
  laidMetH_of_parts (laidMet_of_run (ps := [.cell 6 0, .cell (low4 + 0) 0, .cell 0 0, .cell (low4 + 1) 0, .cell 2 0, .cell (low4 + 2) 0]) 8 (by kernel_rfl) (by kernel_rfl) (by kernel_rfl)) (by kernel_rfl)
end Go.Proofs.YtjjiphigolegbaaDoor
