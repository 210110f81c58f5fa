/-
  All sentinels and the error type's handle: what a row's listed variables give. By an AI agent; no person has read it.
-/
import Derived.Test.YtjjiphigolegbabDoorFvW8
import Derived.Test.YtjjiphigolegbabDoorFvW6
import Derived.Test.YtjjiphigolegbabDoorFvSpJ
set_option linter.unusedVariables false
set_option linter.unusedSimpArgs false
set_option linter.unusedSectionVars false
/-! All sentinels and the error type's handle: what a row's listed variables give. -/
namespace Go.Proofs.YtjjiphigolegbabDoor
open Go Go.Fv Go.Fv.Pl Go.Fv.Tr Go.ChangeShapes Go.WideShapes Go.RowKit

def G20 : Nat → Option (List V) := fun g => if isSent g = true then some [errV g] else if g = 12 then some [] else none
theorem aerrs20 : AErrs G20 := ⟨fun g h => if_pos h, rfl⟩
abbrev sents20 : List (String × DataW Unit) := [("ferry/api.ErrShort", Rows.laid_ferry_api_ErrShort), ("ferry/api.ErrRest", Rows.laid_ferry_api_ErrRest), ("ferry/api.ErrTag", Rows.laid_ferry_api_ErrTag), ("ferry/api.ErrRange", Rows.laid_ferry_api_ErrRange), ("ferry/api.ErrLength", Rows.laid_ferry_api_ErrLength), ("ferry/api.ErrSum", Rows.laid_ferry_api_ErrSum), ("ferry/api.ErrKind", Rows.laid_ferry_api_ErrKind), ("ferry/api.ErrPlan", Rows.laid_ferry_api_ErrPlan), ("ferry/api.ErrState", Rows.laid_ferry_api_ErrState), ("ferry/api.ErrBase", Rows.laid_ferry_api_ErrBase), ("ferry/api.ErrSize", Rows.laid_ferry_api_ErrSize), ("ferry/api.ErrArg", Rows.laid_ferry_api_ErrArg), ("ferry/api.ErrEnd", Rows.laid_ferry_api_ErrEnd), ("ferry/api.ErrBusy", Rows.laid_ferry_api_ErrBusy), ("ferry/api.ErrDown", Rows.laid_ferry_api_ErrDown), ("ferry/api.ErrLost", Rows.laid_ferry_api_ErrLost), ("ferry/api.ErrNone", Rows.laid_ferry_api_ErrNone), ("ferry/api.ErrText", Rows.laid_ferry_api_ErrText), ("ferry/api.ErrStop", Rows.laid_ferry_api_ErrStop), ("ferry/api.ErrDivide", Rows.laid_ferry_api_ErrDivide)]
abbrev laid20 : List (String × DataW Unit) := [("errors.errorType", Rows.laid_errors_errorType), ("ferry/api.ErrShort", Rows.laid_ferry_api_ErrShort), ("ferry/api.ErrRest", Rows.laid_ferry_api_ErrRest), ("ferry/api.ErrTag", Rows.laid_ferry_api_ErrTag), ("ferry/api.ErrRange", Rows.laid_ferry_api_ErrRange), ("ferry/api.ErrLength", Rows.laid_ferry_api_ErrLength), ("ferry/api.ErrSum", Rows.laid_ferry_api_ErrSum), ("ferry/api.ErrKind", Rows.laid_ferry_api_ErrKind), ("ferry/api.ErrPlan", Rows.laid_ferry_api_ErrPlan), ("ferry/api.ErrState", Rows.laid_ferry_api_ErrState), ("ferry/api.ErrBase", Rows.laid_ferry_api_ErrBase), ("ferry/api.ErrSize", Rows.laid_ferry_api_ErrSize), ("ferry/api.ErrArg", Rows.laid_ferry_api_ErrArg), ("ferry/api.ErrEnd", Rows.laid_ferry_api_ErrEnd), ("ferry/api.ErrBusy", Rows.laid_ferry_api_ErrBusy), ("ferry/api.ErrDown", Rows.laid_ferry_api_ErrDown), ("ferry/api.ErrLost", Rows.laid_ferry_api_ErrLost), ("ferry/api.ErrNone", Rows.laid_ferry_api_ErrNone), ("ferry/api.ErrText", Rows.laid_ferry_api_ErrText), ("ferry/api.ErrStop", Rows.laid_ferry_api_ErrStop), ("ferry/api.ErrDivide", Rows.laid_ferry_api_ErrDivide)]
def txt (g : Nat) : List UInt8 := if g = 0 then [116, 104, 101, 32, 115, 116, 97, 116, 101, 32, 98, 114, 101, 97, 107, 115, 32, 97, 32, 114, 117, 108, 101] else if g = 1 then [97, 32, 119, 114, 111, 110, 103, 32, 97, 114, 103, 117, 109, 101, 110, 116] else if g = 2 then [97, 32, 110, 117, 109, 98, 101, 114, 32, 111, 117, 116, 32, 111, 102, 32, 105, 116, 115, 32, 114, 97, 110, 103, 101] else if g = 3 then [116, 104, 101, 114, 101, 32, 105, 115, 32, 110, 111, 110, 101] else if g = 4 then [116, 104, 101, 32, 98, 121, 116, 101, 115, 32, 101, 110, 100, 32, 116, 111, 111, 32, 101, 97, 114, 108, 121] else if g = 5 then [115, 111, 109, 101, 116, 104, 105, 110, 103, 32, 105, 115, 32, 108, 101, 102, 116, 32, 111, 118, 101, 114] else if g = 6 then [97, 110, 111, 116, 104, 101, 114, 32, 116, 97, 103, 32, 105, 115, 32, 119, 97, 110, 116, 101, 100] else if g = 7 then [97, 32, 108, 101, 110, 103, 116, 104, 32, 116, 104, 97, 116, 32, 105, 115, 110, 39, 116, 32, 116, 104, 101, 32, 116, 104, 105, 110, 103, 39, 115] else if g = 8 then [116, 104, 101, 32, 99, 104, 101, 99, 107, 32, 115, 117, 109, 32, 105, 115, 32, 119, 114, 111, 110, 103] else if g = 9 then [110, 111, 32, 115, 117, 99, 104, 32, 107, 105, 110, 100] else if g = 10 then [110, 111, 116, 32, 111, 102, 32, 116, 104, 105, 115, 32, 112, 108, 97, 110] else if g = 11 then [110, 111, 116, 32, 111, 118, 101, 114, 32, 116, 104, 105, 115, 32, 98, 97, 115, 101] else if g = 13 then [116, 111, 111, 32, 108, 97, 114, 103, 101] else if g = 14 then [97, 32, 99, 111, 117, 110, 116, 101, 114, 32, 105, 115, 32, 97, 116, 32, 105, 116, 115, 32, 101, 110, 100] else if g = 15 then [115, 111, 109, 101, 116, 104, 105, 110, 103, 32, 105, 115, 32, 117, 110, 100, 101, 114, 32, 119, 97, 121] else if g = 16 then [116, 104, 101, 32, 109, 111, 100, 117, 108, 101, 32, 105, 115, 32, 100, 111, 119, 110] else if g = 17 then [116, 104, 101, 32, 112, 97, 114, 116, 105, 116, 105, 111, 110, 32, 105, 115, 32, 108, 111, 115, 116] else if g = 18 then [97, 32, 116, 101, 120, 116, 32, 116, 104, 97, 116, 32, 105, 115, 110, 39, 116, 32, 111, 102, 32, 116, 104, 101, 32, 108, 97, 110, 103, 117, 97, 103, 101] else if g = 19 then [99, 97, 110, 99, 101, 108, 108, 101, 100] else if g = 20 then [100, 105, 118, 105, 115, 105, 111, 110, 32, 98, 121, 32, 122, 101, 114, 111] else []
theorem sent_mem {g : Nat} (h : isSent g = true) : g ∈ sentL := by unfold isSent at h; exact List.contains_iff_mem.1 h
theorem gn0 : Tryd.prog.globalNamed "ferry/api.ErrState" = some 0 := by kernel_rfl
theorem gt0 : (Tryd.prog.globals[0]?).map (·.type) = some 63 := by kernel_rfl
theorem gn1 : Tryd.prog.globalNamed "ferry/api.ErrArg" = some 1 := by kernel_rfl
theorem gt1 : (Tryd.prog.globals[1]?).map (·.type) = some 63 := by kernel_rfl
theorem gn2 : Tryd.prog.globalNamed "ferry/api.ErrRange" = some 2 := by kernel_rfl
theorem gt2 : (Tryd.prog.globals[2]?).map (·.type) = some 63 := by kernel_rfl
theorem gn3 : Tryd.prog.globalNamed "ferry/api.ErrNone" = some 3 := by kernel_rfl
theorem gt3 : (Tryd.prog.globals[3]?).map (·.type) = some 63 := by kernel_rfl
theorem gn4 : Tryd.prog.globalNamed "ferry/api.ErrShort" = some 4 := by kernel_rfl
theorem gt4 : (Tryd.prog.globals[4]?).map (·.type) = some 63 := by kernel_rfl
theorem gn5 : Tryd.prog.globalNamed "ferry/api.ErrRest" = some 5 := by kernel_rfl
theorem gt5 : (Tryd.prog.globals[5]?).map (·.type) = some 63 := by kernel_rfl
theorem gn6 : Tryd.prog.globalNamed "ferry/api.ErrTag" = some 6 := by kernel_rfl
theorem gt6 : (Tryd.prog.globals[6]?).map (·.type) = some 63 := by kernel_rfl
theorem gn7 : Tryd.prog.globalNamed "ferry/api.ErrLength" = some 7 := by kernel_rfl
theorem gt7 : (Tryd.prog.globals[7]?).map (·.type) = some 63 := by kernel_rfl
theorem gn8 : Tryd.prog.globalNamed "ferry/api.ErrSum" = some 8 := by kernel_rfl
theorem gt8 : (Tryd.prog.globals[8]?).map (·.type) = some 63 := by kernel_rfl
theorem gn9 : Tryd.prog.globalNamed "ferry/api.ErrKind" = some 9 := by kernel_rfl
theorem gt9 : (Tryd.prog.globals[9]?).map (·.type) = some 63 := by kernel_rfl
theorem gn10 : Tryd.prog.globalNamed "ferry/api.ErrPlan" = some 10 := by kernel_rfl
theorem gt10 : (Tryd.prog.globals[10]?).map (·.type) = some 63 := by kernel_rfl
theorem gn11 : Tryd.prog.globalNamed "ferry/api.ErrBase" = some 11 := by kernel_rfl
theorem gt11 : (Tryd.prog.globals[11]?).map (·.type) = some 63 := by kernel_rfl
theorem gn13 : Tryd.prog.globalNamed "ferry/api.ErrSize" = some 13 := by kernel_rfl
theorem gt13 : (Tryd.prog.globals[13]?).map (·.type) = some 63 := by kernel_rfl
theorem gn14 : Tryd.prog.globalNamed "ferry/api.ErrEnd" = some 14 := by kernel_rfl
theorem gt14 : (Tryd.prog.globals[14]?).map (·.type) = some 63 := by kernel_rfl
theorem gn15 : Tryd.prog.globalNamed "ferry/api.ErrBusy" = some 15 := by kernel_rfl
theorem gt15 : (Tryd.prog.globals[15]?).map (·.type) = some 63 := by kernel_rfl
theorem gn16 : Tryd.prog.globalNamed "ferry/api.ErrDown" = some 16 := by kernel_rfl
theorem gt16 : (Tryd.prog.globals[16]?).map (·.type) = some 63 := by kernel_rfl
theorem gn17 : Tryd.prog.globalNamed "ferry/api.ErrLost" = some 17 := by kernel_rfl
theorem gt17 : (Tryd.prog.globals[17]?).map (·.type) = some 63 := by kernel_rfl
theorem gn18 : Tryd.prog.globalNamed "ferry/api.ErrText" = some 18 := by kernel_rfl
theorem gt18 : (Tryd.prog.globals[18]?).map (·.type) = some 63 := by kernel_rfl
theorem gn19 : Tryd.prog.globalNamed "ferry/api.ErrStop" = some 19 := by kernel_rfl
theorem gt19 : (Tryd.prog.globals[19]?).map (·.type) = some 63 := by kernel_rfl
theorem gn20 : Tryd.prog.globalNamed "ferry/api.ErrDivide" = some 20 := by kernel_rfl
theorem gt20 : (Tryd.prog.globals[20]?).map (·.type) = some 63 := by kernel_rfl
theorem gnH : Tryd.prog.globalNamed "errors.errorType" = some 12 := by kernel_rfl
theorem rtH : (Tryd.prog.cutTypes.find? (·.1 == "internal/reflectlite.rtype")).map (·.2) = some 208 := by kernel_rfl
theorem oneRowH : ((List.range 264).filter fun t => Tryd.prog.rowNamed t [101, 114, 114, 111, 114]) = [63] := by kernel_rfl
theorem sizeH : Tryd.prog.types.size = 264 := by kernel_rfl
theorem typH : typeHandle Tryd.prog 63 = .pointer (some ⟨21, 63, none⟩) := by kernel_rfl
theorem handle_of {W : World} (h : handlesMet Tryd.prog [("errors.errorType", Rows.laid_errors_errorType)] W) : W.cell? ⟨12, 0, none⟩ = some (.iface 208 (.agg #[.pointer (some ⟨21, 63, none⟩)])) := by
  obtain ⟨name, u, ty, e1, e2, e3, e4, e5⟩ := h _ (List.mem_singleton.2 rfl)
  have en : name = [101, 114, 114, 111, 114] := (Option.some.inj e1).symm
  subst en
  obtain rfl := Option.some.inj (rtH.symm.trans e2)
  have hm : ty ∈ (List.range 264).filter fun t => Tryd.prog.rowNamed t [101, 114, 114, 111, 114] := List.mem_filter.2 ⟨List.mem_range.2 (by rw [← sizeH]; exact e3), e4⟩
  rw [oneRowH] at hm
  obtain rfl := List.mem_singleton.1 hm
  rw [typH] at e5
  simpa using World.var?_cell gnH e5 0

theorem each {W : World} (hm : laidMet Tryd.prog sents20 W) : ∀ g, isSent g = true → ∃ a, W.cell? ⟨g, 0, none⟩ = some (.iface 225 (.pointer (some a))) ∧ (∃ s : ByteArray, W.cell? a = some (.string s) ∧ s.data.toList = txt g) ∧ ∃ cs t, W.heap[a.block]? = some (Obj.cells cs t (0, 0)) := by
  intro g hg
  have hc : g = 0 ∨ g = 1 ∨ g = 2 ∨ g = 3 ∨ g = 4 ∨ g = 5 ∨ g = 6 ∨ g = 7 ∨ g = 8 ∨ g = 9 ∨ g = 10 ∨ g = 11 ∨ g = 13 ∨ g = 14 ∨ g = 15 ∨ g = 16 ∨ g = 17 ∨ g = 18 ∨ g = 19 ∨ g = 20 := by simpa [sentL] using sent_mem hg
  rcases hc with rfl | rfl | rfl | rfl | rfl | rfl | rfl | rfl | rfl | rfl | rfl | rfl | rfl | rfl | rfl | rfl | rfl | rfl | rfl | rfl
  · exact sent hm (text := txt 0) (List.mem_of_getElem? (i := 8) rfl) gn0 gt0
  · exact sent hm (text := txt 1) (List.mem_of_getElem? (i := 11) rfl) gn1 gt1
  · exact sent hm (text := txt 2) (List.mem_of_getElem? (i := 3) rfl) gn2 gt2
  · exact sent hm (text := txt 3) (List.mem_of_getElem? (i := 16) rfl) gn3 gt3
  · exact sent hm (text := txt 4) (List.mem_of_getElem? (i := 0) rfl) gn4 gt4
  · exact sent hm (text := txt 5) (List.mem_of_getElem? (i := 1) rfl) gn5 gt5
  · exact sent hm (text := txt 6) (List.mem_of_getElem? (i := 2) rfl) gn6 gt6
  · exact sent hm (text := txt 7) (List.mem_of_getElem? (i := 4) rfl) gn7 gt7
  · exact sent hm (text := txt 8) (List.mem_of_getElem? (i := 5) rfl) gn8 gt8
  · exact sent hm (text := txt 9) (List.mem_of_getElem? (i := 6) rfl) gn9 gt9
  · exact sent hm (text := txt 10) (List.mem_of_getElem? (i := 7) rfl) gn10 gt10
  · exact sent hm (text := txt 11) (List.mem_of_getElem? (i := 9) rfl) gn11 gt11
  · exact sent hm (text := txt 13) (List.mem_of_getElem? (i := 10) rfl) gn13 gt13
  · exact sent hm (text := txt 14) (List.mem_of_getElem? (i := 12) rfl) gn14 gt14
  · exact sent hm (text := txt 15) (List.mem_of_getElem? (i := 13) rfl) gn15 gt15
  · exact sent hm (text := txt 16) (List.mem_of_getElem? (i := 14) rfl) gn16 gt16
  · exact sent hm (text := txt 17) (List.mem_of_getElem? (i := 15) rfl) gn17 gt17
  · exact sent hm (text := txt 18) (List.mem_of_getElem? (i := 17) rfl) gn18 gt18
  · exact sent hm (text := txt 19) (List.mem_of_getElem? (i := 18) rfl) gn19 gt19
  · exact sent hm (text := txt 20) (List.mem_of_getElem? (i := 19) rfl) gn20 gt20
theorem txt_inj' : ∀ i, i ∈ sentL → ∀ j, j ∈ sentL → txt i = txt j → i = j := by decide
theorem txt_inj (i : Nat) (hi : isSent i = true) (j : Nat) (hj : isSent j = true) : txt i = txt j → i = j := txt_inj' i (sent_mem hi) j (sent_mem hj)
theorem sent_of {k : Nat} (h : sentOf G20 k = true) : isSent k = true := by
  by_cases g : isSent k = true
  · exact g
  · exfalso
    unfold sentOf G20 at h
    rw [if_neg g] at h
    by_cases e : k = 12
    · rw [if_pos e] at h; simp at h
    · rw [if_neg e] at h; simp at h
open Classical in
theorem glob20 {W : World} (h : laidMetH Tryd.prog laid20 W) : ∃ σ, Apart G20 σ ∧ GlobOk (cfg G20) σ (K0 W) W := by
  have h' : laidMet Tryd.prog sents20 W ∧ handlesMet Tryd.prog [("errors.errorType", Rows.laid_errors_errorType)] W := h
  have hz := handle_of h'.2
  have he := each h'.1
  refine ⟨fun k => if hk : isSent k = true then (he k hk).choose else ⟨0, 0, none⟩, fun i j hi hj hne heq => ?_, ⟨fun g row hg => ?_, fun k hk => ?_, fun g v hg => ?_⟩⟩
  · have hi := sent_of hi
    have hj := sent_of hj
    simp only [dif_pos hi, dif_pos hj] at heq
    obtain ⟨_, ⟨s1, c1, t1⟩, _⟩ := (he i hi).choose_spec
    obtain ⟨_, ⟨s2, c2, t2⟩, _⟩ := (he j hj).choose_spec
    rw [heq, c2] at c1
    cases c1
    exact hne (txt_inj i hi j hj (t1.symm.trans t2))
  · have hg : G20 g = some row := hg
    unfold G20 at hg
    split at hg
    · rename_i hlt
      cases hg
      refine sent_rel ?_
      simp only [dif_pos hlt]
      exact (he g hlt).choose_spec.1
    · split at hg
      · rename_i e
        subst e
        cases hg
        exact .iptr [] 0 12 0 (fun _ => .nilIface) (block_lt hz) (fun c hc => by simp at hc) (fun j c hj => by simp at hj) (fun j c hj => by simp at hj)
      · cases hg
  · have hk := sent_of hk
    simp only [dif_pos hk]
    obtain ⟨cs, t, hh⟩ := (he k hk).choose_spec.2.2
    exact ⟨(Array.getElem?_eq_some_iff.1 hh).1, cs, t, hh⟩
  · have hg : (if g = 12 ∧ handOf G20 = true then some (Value.iface 208 (.agg #[.pointer (some ⟨21, 63, none⟩)])) else none) = some v := hg
    split at hg
    · rename_i e
      obtain ⟨rfl, _⟩ := e
      cases hg
      exact ⟨block_lt hz, hz⟩
    · cases hg

noncomputable def low20 : Nat := (World.holding Tryd.prog default ⟨#[], #[], []⟩).heap.size
def pos20 (i : Nat) : Option Nat := if i = 0 then some 0 else if i = 1 then some 1 else if i = 2 then some 2 else if i = 3 then some 3 else if i = 4 then some 4 else if i = 5 then some 5 else if i = 6 then some 6 else if i = 7 then some 7 else if i = 8 then some 8 else if i = 9 then some 9 else if i = 10 then some 10 else if i = 11 then some 11 else if i = 13 then some 12 else if i = 14 then some 13 else if i = 15 then some 14 else if i = 16 then some 15 else if i = 17 then some 16 else if i = 18 then some 17 else if i = 19 then some 18 else if i = 20 then some 19 else none
/-- A world in which all are laid. -/
noncomputable def laidWorld20 (os : Os) : World :=
  let w0 := World.holding Tryd.prog os ⟨(sentL.map fun g => Obj.cells #[.string ⟨(txt g).toArray⟩] 252 (0, 0)).toArray, #[], []⟩
  { w0 with heap := ((List.range w0.heap.size).map fun i => match w0.heap.getD i default with
      | .cells cs t frozen => (match pos20 i with | some k => .cells #[.iface 225 (.pointer (some ⟨low20 + k, 0, none⟩))] t frozen | none => if i = 12 then .cells #[.iface 208 (.agg #[.pointer (some ⟨21, 63, none⟩)])] t frozen else .cells cs t frozen)
      | o => o).toArray }
theorem laid_met20 (os : Os) (args : Array Value) : laidMetH Tryd.prog laid20 ((laidWorld20 os).forCall (fun _ _ => 0) ⟨#[], args, []⟩).memory :=
  laidMetH_of_parts (laidMet_of_run (ps := [.cell 4 0, .cell (low20 + 4) 0, .cell 5 0, .cell (low20 + 5) 0, .cell 6 0, .cell (low20 + 6) 0, .cell 2 0, .cell (low20 + 2) 0, .cell 7 0, .cell (low20 + 7) 0, .cell 8 0, .cell (low20 + 8) 0, .cell 9 0, .cell (low20 + 9) 0, .cell 10 0, .cell (low20 + 10) 0, .cell 0 0, .cell (low20 + 0) 0, .cell 11 0, .cell (low20 + 11) 0, .cell 13 0, .cell (low20 + 12) 0, .cell 1 0, .cell (low20 + 1) 0, .cell 14 0, .cell (low20 + 13) 0, .cell 15 0, .cell (low20 + 14) 0, .cell 16 0, .cell (low20 + 15) 0, .cell 17 0, .cell (low20 + 16) 0, .cell 3 0, .cell (low20 + 3) 0, .cell 18 0, .cell (low20 + 17) 0, .cell 19 0, .cell (low20 + 18) 0, .cell 20 0, .cell (low20 + 19) 0]) 8 (by kernel_rfl) (by kernel_rfl) (by kernel_rfl)) (by kernel_rfl)
end Go.Proofs.YtjjiphigolegbabDoor
