/-
  TextChecks: for every script the law returns true, and the script reads as before. Conditions: the row's own (the listed variables hold what the text lays). By an AI agent; no person has read it.
-/
import Derived.Test.YtgcjnpfidjfmmaaDoorFvRM
import Derived.Test.YtgcjnpfidjfmmaaDoorFvRS
set_option linter.unusedVariables false
set_option linter.unusedSimpArgs false
set_option linter.unusedSectionVars false
/-! TextChecks: for every script the law returns true, and the script reads as before. Conditions: the row's own (the listed variables hold what the text lays). -/
namespace Go.Proofs.YtgcjnpfidjfmmaaDoor
open Go Go.Fv Go.Fv.Tr Go.ChangeShapes Go.WideShapes Go.RowKit

set_option maxRecDepth 100000 in
theorem textChecks_lifted (os : Os) (started : os.Started) (H : Type) (enc : TypeId × Value → H) :
    ReturnsInHanded {} Tryd.checked os 3 .any (fun w args => (Rows.textChecksSpec.pre enc Tryd.prog Tryd.f3 [] false w args ∧ laidMetH Tryd.prog laidX w) ∧ sizedMet enc Tryd.prog Tryd.f3 (OpenSpec.ofChange Rows.textChecksSpec) false w args)
      (Rows.textChecksSpec.post enc Tryd.prog Tryd.f3 false true false false) := by
  refine returnsInHanded_of_change_and (C := Tryd.checked) (X := fun w _ => laidMetH Tryd.prog laidX w) (fun _ _ _ hh h => h.of_heap hh) own started (by kernel_rfl) Tryd.func3
    (ChangeSpec.witness_at (enc := enc) (C := Tryd.checked) (os := os) (X := fun w _ => laidMetH Tryd.prog laidX w) false (laidWorldX os) #[.agg #[.int .i64 0, .slice none 0 0, .slice none 0 0, .slice none 0 0, .slice none 0 0, .int .i64 0, .slice none 0 0, .slice none 0 0]] 8 rfl (by kernel_rfl) (by kernel_rfl) (by kernel_rfl) (by kernel_rfl) (by kernel_rfl) (laid_metX os _)) ?_
  intro W base args ds gs before hval hW _ hsz hL _
  obtain ⟨σ, hap, gl⟩ := globX hL
  have hW0 := hW
  obtain ⟨p, q, hA, _⟩ := hW0
  have hA' : DataW.TrodAll enc Tryd.prog W 0 (fun _ => true) true Tryd.f3.params.toList args.toList ds p := hA
  rw [Tryd.params3] at hA'
  obtain ⟨v0, d0, _, hd, _⟩ := trodAll_one hA'
  refine law_contract (C := cfg GX) (n := 7) (tb := 4) (goodX hap) kids full (by rw [Tryd.params3]; intro t ht; simp at ht; subst ht; exact of_decide_eq_true (by kernel_rfl)) (by rw [Tryd.params3]; intro t ht; simp at ht; subst ht; exact inScr) rfl (by rw [hd]; rfl) (by kernel_rfl) Tryd.underlying4 hval hW hsz gl ?_
  intro xs hxs _
  rw [Tryd.params3] at hxs
  obtain ⟨x, rfl, l, hl, rfl⟩ := shs1 (P := Tryd.prog) (n := 7) hxs
  obtain ⟨s, ps, hs, ws, ks, is, os, rows, h, hfit⟩ := sh_script (n := 0) hl
  rw [argVScr]
  obtain ⟨v, H', e, rfl⟩ := checks_run h hfit
  exact ⟨_, H', e⟩

theorem textChecks_holds : Rows.TextChecksSaid :=
  OpenClaim.holds_of_wide 3 Tryd.f3 rfl rfl rfl rfl rfl rfl rfl ⟨rfl, rfl, rfl, rfl, rfl⟩ rfl rfl rfl rfl rfl (by kernel_rfl) Tryd.func3 (by kernel_rfl)
    (of_decide_eq_true (by kernel_rfl)) (by unfold Func.isWrapper; rw [if_neg (of_decide_eq_false (by kernel_rfl))]; exact ⟨rfl, rfl⟩)
    (fun os started H enc _ => textChecks_lifted os started H enc)

theorem textChecks_card : Rows.TextChecksCardSaid :=
  Claim7.holds_tied_plain_at .later [] [.data, .data, .data, .handle, .sentinel, .sentinel, .sentinel, .sentinel, .sentinel, .sentinel, .sentinel, .sentinel, .sentinel, .sentinel, .sentinel, .sentinel, .sentinel, .sentinel, .sentinel, .sentinel, .sentinel, .sentinel, .sentinel, .sentinel] true (true, "a12e5fbe74f4ec3bfe55bc45c3c03786a59b628a3b6a91ca70a4fc449a30ad8d") true
    textChecks_holds (fun _ h => by cases h) (by kernel_rfl) (fun _ h => by cases h) textChecks_row_tie rfl ⟨rfl, rfl⟩ (by kernel_rfl) rfl
    (fun f fn hf hfn => by
      obtain rfl : f = 3 := Option.some.inj ((show Tryd.prog.funcNamed "ferry/ferrylaw25.TextChecks" = some 3 by kernel_rfl).symm.trans hf) |>.symm
      obtain rfl : fn = Tryd.f3 := (Option.some.inj (Tryd.func3.symm.trans hfn)).symm
      exact ⟨by kernel_rfl, fun j t ht => by
        rw [Tryd.params3] at ht
        have hm : t ∈ [31] := by
          exact Array.mem_toList_iff.2 (Array.mem_of_getElem? ht)
        simp at hm
        subst hm; exact (show Tryd.prog.wantsStandIn 31 = false by kernel_rfl)⟩)
    (by kernel_rfl)
#print axioms textChecks_card
end Go.Proofs.YtgcjnpfidjfmmaaDoor
