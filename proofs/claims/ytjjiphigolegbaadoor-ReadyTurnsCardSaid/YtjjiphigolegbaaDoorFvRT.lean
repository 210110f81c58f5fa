/-
  The card of ReadyTurns. By an AI agent; no person has read it.
-/
import Derived.Test.YtjjiphigolegbaaDoorFvRB
import Derived.Test.YtjjiphigolegbaaDoorFvSpG
set_option linter.unusedVariables false
set_option linter.unusedSimpArgs false
set_option linter.unusedSectionVars false
/-! The card of ReadyTurns. -/
namespace Go.Proofs.YtjjiphigolegbaaDoor
open Go Go.Fv Go.Fv.Pl Go.Fv.Tr Go.ChangeShapes Go.WideShapes Go.RowKit

/-! ### The three sentinels -/
def G3 : Nat → Option (List V) := fun g => if g = 0 then some [errV 0] else if g = 1 then some [errV 1] else if g = 2 then some [errV 2] else none
theorem errs3 : Errs G3 := ⟨rfl, rfl, rfl⟩
abbrev laid3 : List (String × DataW Unit) := [("ferry/api.ErrState", Rows.laid_ferry_api_ErrState), ("ferry/api.ErrArg", Rows.laid_ferry_api_ErrArg), ("ferry/api.ErrNone", Rows.laid_ferry_api_ErrNone)]
theorem gState : Tryd.prog.globalNamed "ferry/api.ErrState" = some 0 := by kernel_rfl
theorem gNone : Tryd.prog.globalNamed "ferry/api.ErrNone" = some 1 := by kernel_rfl
theorem gArg : Tryd.prog.globalNamed "ferry/api.ErrArg" = some 2 := by kernel_rfl
theorem tState : (Tryd.prog.globals[0]?).map (·.type) = some 37 := by kernel_rfl
theorem tNone : (Tryd.prog.globals[1]?).map (·.type) = some 37 := by kernel_rfl
theorem tArg : (Tryd.prog.globals[2]?).map (·.type) = some 37 := by kernel_rfl
theorem glob3 {W : World} (h : laidMetH Tryd.prog laid3 W) : ∃ σ, GlobOk (cfg G3) σ (K0 W) W := by
  have hm : laidMet Tryd.prog laid3 W := h
  obtain ⟨a0, h0⟩ := sent hm (List.mem_cons_self ..) gState tState
  obtain ⟨a2, h2⟩ := sent hm (List.mem_cons_of_mem _ (List.mem_cons_self ..)) gArg tArg
  obtain ⟨a1, h1⟩ := sent hm (List.mem_cons_of_mem _ (List.mem_cons_of_mem _ (List.mem_cons_self ..))) gNone tNone
  refine ⟨fun k => if k = 0 then a0 else if k = 1 then a1 else a2, ⟨fun g row hg => ?_, fun k hk => by cases hk⟩⟩
  have hg : G3 g = some row := hg
  unfold G3 at hg
  split at hg
  · rename_i e; subst e; cases hg; exact sent_rel h0
  · split at hg
    · rename_i e; subst e; cases hg; exact sent_rel h1
    · split at hg
      · rename_i e; subst e; cases hg; exact sent_rel h2
      · cases hg

def txtState : ByteArray := ⟨#[116, 104, 101, 32, 115, 116, 97, 116, 101, 32, 98, 114, 101, 97, 107, 115, 32, 97, 32, 114, 117, 108, 101]⟩
def txtArg : ByteArray := ⟨#[97, 32, 119, 114, 111, 110, 103, 32, 97, 114, 103, 117, 109, 101, 110, 116]⟩
def txtNone : ByteArray := ⟨#[116, 104, 101, 114, 101, 32, 105, 115, 32, 110, 111, 110, 101]⟩
noncomputable def low : Nat := (World.holding Tryd.prog default ⟨#[], #[], []⟩).heap.size
/-- A world in which the three are laid. -/
noncomputable def laidWorld (os : Os) : World :=
  let w0 := World.holding Tryd.prog os ⟨#[.cells #[.string txtState] 270, .cells #[.string txtArg] 270, .cells #[.string txtNone] 270], #[], []⟩
  { w0 with heap := ((w0.heap.modify 0 fun
      | .cells _ t frozen => .cells #[.iface 251 (.pointer (some ⟨low, 0, none⟩))] t frozen
      | o => o).modify 2 fun
      | .cells _ t frozen => .cells #[.iface 251 (.pointer (some ⟨low + 1, 0, none⟩))] t frozen
      | o => o).modify 1 fun
      | .cells _ t frozen => .cells #[.iface 251 (.pointer (some ⟨low + 2, 0, none⟩))] t frozen
      | o => o }
theorem laid_met (os : Os) (args : Array Value) : laidMetH Tryd.prog laid3 ((laidWorld os).forCall (fun _ _ => 0) ⟨#[], args, []⟩).memory :=
  laidMetH_of_parts (laidMet_of_run (ps := [.cell 0 0, .cell low 0, .cell 2 0, .cell (low + 1) 0, .cell 1 0, .cell (low + 2) 0]) 8 (by kernel_rfl) (by kernel_rfl) (by kernel_rfl)) (by kernel_rfl)

set_option maxRecDepth 100000 in
theorem turns_lifted (os : Os) (started : os.Started) (H : Type) (enc : TypeId × Value → H) :
    ReturnsInHanded {} Tryd.checked os 3 .any (fun w args => (Rows.readyTurnsSpec.pre enc Tryd.prog Tryd.f3 [] false w args ∧ laidMetH Tryd.prog laid3 w) ∧ sizedMet enc Tryd.prog Tryd.f3 (OpenSpec.ofChange Rows.readyTurnsSpec) false w args)
      (Rows.readyTurnsSpec.post enc Tryd.prog Tryd.f3 false true false false) := by
  refine returnsInHanded_of_change_and (C := Tryd.checked) (X := fun w _ => laidMetH Tryd.prog laid3 w) (fun _ _ _ hh h => h.of_heap hh) own started (by kernel_rfl) Tryd.func3
    (ChangeSpec.witness_at (enc := enc) (C := Tryd.checked) (os := os) (X := fun w _ => laidMetH Tryd.prog laid3 w) false (laidWorld os) #[.agg #[.slice none 0 0, .slice none 0 0, .slice none 0 0]] 8 rfl (by kernel_rfl) (by kernel_rfl) (by kernel_rfl) (by kernel_rfl) (by kernel_rfl) (laid_met os _)) ?_
  intro W base args ds gs before hval hW _ hsz hL _
  obtain ⟨σ, gl⟩ := glob3 hL
  have hW0 := hW
  obtain ⟨p, q, hA, _⟩ := hW0
  have hA' : DataW.TrodAll enc Tryd.prog W 0 (fun _ => true) true Tryd.f3.params.toList args.toList ds p := hA
  rw [Tryd.params3] at hA'
  obtain ⟨v0, d0, _, hd, _⟩ := trodAll_one hA'
  refine law_contract (C := cfg G3) (n := 5) (tb := 4) (good G3 σ) kids full (by rw [Tryd.params3]; intro t ht; simp at ht; subst ht; exact of_decide_eq_true (by kernel_rfl)) (by rw [Tryd.params3]; intro t ht; simp at ht; subst ht; exact in26) rfl (by rw [hd]; rfl) (by kernel_rfl) Tryd.underlying4 hval hW hsz gl ?_
  intro xs hxs _
  rw [Tryd.params3] at hxs
  obtain ⟨x, rfl, l, hl, rfl⟩ : ∃ x, xs = [x] ∧ ∃ l, Sh Tryd.prog 5 26 l ∧ x = argV Tryd.prog 26 l := by
    match xs, hxs with
    | [x], h => exact ⟨x, rfl, h.1⟩
  obtain ⟨x, y, z, t, rfl, ht, _⟩ := sh_tab (n := 0) hl
  rw [argV26]
  obtain ⟨v, H', e, rfl⟩ := turns_run errs3 0 ht
  exact ⟨_, H', e⟩

theorem turns_holds : Rows.ReadyTurnsSaid :=
  OpenClaim.holds_of_wide 3 Tryd.f3 rfl rfl rfl rfl rfl rfl rfl ⟨rfl, rfl, rfl, rfl, rfl⟩ rfl rfl rfl rfl rfl (by kernel_rfl) Tryd.func3 (by kernel_rfl)
    (of_decide_eq_true (by kernel_rfl)) (by unfold Func.isWrapper; rw [if_neg (of_decide_eq_false (by kernel_rfl))]; exact ⟨rfl, rfl⟩)
    (fun os started H enc _ => turns_lifted os started H enc)

theorem readyTurns_card : Rows.ReadyTurnsCardSaid :=
  Claim7.holds_tied_plain_at .later [] [.sentinel, .sentinel, .sentinel] true (true, "da26760cf75b9c293af45aeb444ad4429ad40f1d87a6779f4b8aeacaf9e154b5") true
    turns_holds (fun _ h => by cases h) (by kernel_rfl) (fun _ h => by cases h) readyTurns_row_tie rfl ⟨rfl, rfl⟩ (by kernel_rfl) rfl
    (fun f fn hf hfn => by
      obtain rfl : f = 3 := Option.some.inj ((show Tryd.prog.funcNamed "ferry/ferrylaw09.ReadyTurns" = some 3 by kernel_rfl).symm.trans hf) |>.symm
      obtain rfl : fn = Tryd.f3 := (Option.some.inj (Tryd.func3.symm.trans hfn)).symm
      exact ⟨by kernel_rfl, fun j t ht => by
        rw [Tryd.params3] at ht
        have h3 : t = 26 := by
          rcases j with _ | j
          · simpa using ht.symm
          · simp at ht
        subst h3
        exact (show Tryd.prog.wantsStandIn 26 = false by kernel_rfl)⟩)
    (by kernel_rfl)
#print axioms readyTurns_card
end Go.Proofs.YtjjiphigolegbaaDoor
