/-
  ReadyStates: for every state and every table the law returns true, and the arguments read as before. Conditions: the row's own (the listed variables hold what the text lays). By an AI agent; no person has read it.
-/
import Derived.Test.YtjjiphigolegbaaDoorFvRA3
import Derived.Test.YtjjiphigolegbaaDoorFvRSt
set_option linter.unusedVariables false
set_option linter.unusedSimpArgs false
set_option linter.unusedSectionVars false
/-! ReadyStates: for every state and every table the law returns true, and the arguments read as before. Conditions: the row's own (the listed variables hold what the text lays). -/
namespace Go.Proofs.YtjjiphigolegbaaDoor
open Go Go.Fv Go.Fv.Pl Go.Fv.Tr Go.ChangeShapes Go.WideShapes Go.RowKit

set_option maxRecDepth 100000 in
theorem readyStates_lifted (os : Os) (started : os.Started) (H : Type) (enc : TypeId × Value → H) :
    ReturnsInHanded {} Tryd.checked os 5 .any (fun w args => (Rows.readyStatesSpec.pre enc Tryd.prog Tryd.f5 [] false w args ∧ laidMetH Tryd.prog laid3 w) ∧ sizedMet enc Tryd.prog Tryd.f5 (OpenSpec.ofChange Rows.readyStatesSpec) false w args)
      (Rows.readyStatesSpec.post enc Tryd.prog Tryd.f5 false true false false) := by
  refine returnsInHanded_of_change_and (C := Tryd.checked) (X := fun w _ => laidMetH Tryd.prog laid3 w) (fun _ _ _ hh h => h.of_heap hh) own started (by kernel_rfl) Tryd.func5
    (ChangeSpec.witness_at (enc := enc) (C := Tryd.checked) (os := os) (X := fun w _ => laidMetH Tryd.prog laid3 w) false (laidWorld3 os) #[.agg #[.int .i64 0, .int .i64 0, .int .i64 0, .slice none 0 0, .slice none 0 0, .slice none 0 0, .slice none 0 0, .slice none 0 0, .slice none 0 0, .slice none 0 0], .agg #[.slice none 0 0, .slice none 0 0, .slice none 0 0]] 8 rfl (by kernel_rfl) (by kernel_rfl) (by kernel_rfl) (by kernel_rfl) (by kernel_rfl) (laid_met3 os _)) ?_
  intro W base args ds gs before hval hW _ hsz hL _
  obtain ⟨σ, hap, gl⟩ := glob3 hL
  have hW0 := hW
  obtain ⟨p, q, hA, _⟩ := hW0
  have hA' : DataW.TrodAll enc Tryd.prog W 0 (fun _ => true) true Tryd.f5.params.toList args.toList ds p := hA
  rw [Tryd.params5] at hA'
  obtain ⟨v0, v1, d0, d1, _, _, _, hd, _⟩ := trodAll_two hA'
  refine law_contract (C := cfg G3) (n := 6) (tb := 4) (goodN hap ⟨rfl, rfl, rfl⟩) kids full (by rw [Tryd.params5]; intro t ht; simp at ht; exact (ht.elim (fun e => by subst e; exact of_decide_eq_true (by kernel_rfl)) (fun q => (by subst q; exact of_decide_eq_true (by kernel_rfl))))) (by rw [Tryd.params5]; intro t ht; simp at ht; exact (ht.elim (fun e => by subst e; exact inSt) (fun q => (by subst q; exact in26')))) rfl (by rw [hd]; rfl) (by kernel_rfl) Tryd.underlying4 hval hW hsz gl ?_
  intro xs hxs _
  rw [Tryd.params5] at hxs
  obtain ⟨x, a, rfl, ⟨l, hl, rfl⟩, ⟨la, ha, rfl⟩⟩ := shs2 (P := Tryd.prog) (n := 6) hxs
  obtain ⟨s, x, y, z, a, b, c, d, pr, h, hs⟩ := sh_state (n := 0) hl
  obtain ⟨u, v, w, t, rfl, ht, hw⟩ := sh_tab (n := 1) ha
  rw [argVSt, argV26]
  obtain ⟨v, H', e, rfl⟩ := states_run h hs (tab_rd ht) (tb_of hw ht.big)
  exact ⟨_, H', e⟩

theorem readyStates_holds : Rows.ReadyStatesSaid :=
  OpenClaim.holds_of_wide 5 Tryd.f5 rfl rfl rfl rfl rfl rfl rfl ⟨rfl, rfl, rfl, rfl, rfl⟩ rfl rfl rfl rfl rfl (by kernel_rfl) Tryd.func5 (by kernel_rfl)
    (of_decide_eq_true (by kernel_rfl)) (by unfold Func.isWrapper; rw [if_neg (of_decide_eq_false (by kernel_rfl))]; exact ⟨rfl, rfl⟩)
    (fun os started H enc _ => readyStates_lifted os started H enc)

theorem readyStates_card : Rows.ReadyStatesCardSaid :=
  Claim7.holds_tied_plain_at .later [] [.sentinel, .sentinel, .sentinel] true (true, "da26760cf75b9c293af45aeb444ad4429ad40f1d87a6779f4b8aeacaf9e154b5") true
    readyStates_holds (fun _ h => by cases h) (by kernel_rfl) (fun _ h => by cases h) readyStates_row_tie rfl ⟨rfl, rfl⟩ (by kernel_rfl) rfl
    (fun f fn hf hfn => by
      obtain rfl : f = 5 := Option.some.inj ((show Tryd.prog.funcNamed "ferry/ferrylaw09.ReadyStates" = some 5 by kernel_rfl).symm.trans hf) |>.symm
      obtain rfl : fn = Tryd.f5 := (Option.some.inj (Tryd.func5.symm.trans hfn)).symm
      exact ⟨by kernel_rfl, fun j t ht => by
        rw [Tryd.params5] at ht
        have hm : t ∈ [48, 26] := by
          exact Array.mem_toList_iff.2 (Array.mem_of_getElem? ht)
        simp at hm
        exact (hm.elim (fun e => by subst e; exact (show Tryd.prog.wantsStandIn 48 = false by kernel_rfl)) (fun q => (by subst q; exact (show Tryd.prog.wantsStandIn 26 = false by kernel_rfl))))⟩)
    (by kernel_rfl)
#print axioms readyStates_card
end Go.Proofs.YtjjiphigolegbaaDoor
