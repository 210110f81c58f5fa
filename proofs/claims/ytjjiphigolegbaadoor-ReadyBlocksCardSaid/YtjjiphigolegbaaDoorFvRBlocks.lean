/-
  ReadyBlocks: for every case the law returns true, and the case reads as before. Conditions: the row's own (the listed variables hold what the text lays). By an AI agent; no person has read it.
-/
import Derived.Test.YtjjiphigolegbaaDoorFvRA3
import Derived.Test.YtjjiphigolegbaaDoorFvRD
import Derived.Test.YtjjiphigolegbaaDoorFvSqI
set_option linter.unusedVariables false
set_option linter.unusedSimpArgs false
set_option linter.unusedSectionVars false
/-! ReadyBlocks: for every case the law returns true, and the case reads as before. Conditions: the row's own (the listed variables hold what the text lays). -/
namespace Go.Proofs.YtjjiphigolegbaaDoor
open Go Go.Fv Go.Fv.Pl Go.Fv.Tr Go.ChangeShapes Go.WideShapes Go.RowKit

set_option maxRecDepth 100000 in
theorem readyBlocks_lifted (os : Os) (started : os.Started) (H : Type) (enc : TypeId × Value → H) :
    ReturnsInHanded {} Tryd.checked os 14 .any (fun w args => (Rows.readyBlocksSpec.pre enc Tryd.prog Tryd.f14 [] false w args ∧ laidMetH Tryd.prog laid3 w) ∧ sizedMet enc Tryd.prog Tryd.f14 (OpenSpec.ofChange Rows.readyBlocksSpec) false w args)
      (Rows.readyBlocksSpec.post enc Tryd.prog Tryd.f14 false true false false) := by
  refine returnsInHanded_of_change_and (C := Tryd.checked) (X := fun w _ => laidMetH Tryd.prog laid3 w) (fun _ _ _ hh h => h.of_heap hh) own started (by kernel_rfl) Tryd.func14
    (ChangeSpec.witness_at (enc := enc) (C := Tryd.checked) (os := os) (X := fun w _ => laidMetH Tryd.prog laid3 w) false (laidWorld3 os) #[.agg #[.slice none 0 0, .slice none 0 0, .slice none 0 0, .int .i64 0, .int .i64 0, .int .i64 0, .int .i64 0, .int .i64 0, .int .i64 0, .int .i64 0, .int .u32 0]] 8 rfl (by kernel_rfl) (by kernel_rfl) (by kernel_rfl) (by kernel_rfl) (by kernel_rfl) (laid_met3 os _)) ?_
  intro W base args ds gs before hval hW _ hsz hL _
  obtain ⟨σ, hap, gl⟩ := glob3 hL
  have hW0 := hW
  obtain ⟨p, q, hA, _⟩ := hW0
  have hA' : DataW.TrodAll enc Tryd.prog W 0 (fun _ => true) true Tryd.f14.params.toList args.toList ds p := hA
  rw [Tryd.params14] at hA'
  obtain ⟨v0, d0, _, hd, _⟩ := trodAll_one hA'
  refine law_contract (C := cfg G3) (n := 6) (tb := 4) (good hap) kids full (by rw [Tryd.params14]; intro t ht; simp at ht; subst ht; exact of_decide_eq_true (by kernel_rfl)) (by rw [Tryd.params14]; intro t ht; simp at ht; subst ht; exact in88) rfl (by rw [hd]; rfl) (by kernel_rfl) Tryd.underlying4 hval hW hsz gl ?_
  intro xs hxs _
  rw [Tryd.params14] at hxs
  obtain ⟨x, rfl, l, hl, rfl⟩ := shs1 (P := Tryd.prog) (n := 6) hxs
  obtain ⟨x, y, z, t, pr, w, o, du, pi, st, nw, r1, rfl, ht, hw, w1, w2, w3, w4, w5, w6, w7, w8⟩ := sh_case (n := 0) hl
  rw [argV88]
  obtain ⟨v, H', e, rfl⟩ := blocks_run errs3 0 ht pr w o du pi st nw r1
  exact ⟨_, H', e⟩

theorem readyBlocks_holds : Rows.ReadyBlocksSaid :=
  OpenClaim.holds_of_wide 14 Tryd.f14 rfl rfl rfl rfl rfl rfl rfl ⟨rfl, rfl, rfl, rfl, rfl⟩ rfl rfl rfl rfl rfl (by kernel_rfl) Tryd.func14 (by kernel_rfl)
    (of_decide_eq_true (by kernel_rfl)) (by unfold Func.isWrapper; rw [if_neg (of_decide_eq_false (by kernel_rfl))]; exact ⟨rfl, rfl⟩)
    (fun os started H enc _ => readyBlocks_lifted os started H enc)

theorem readyBlocks_card : Rows.ReadyBlocksCardSaid :=
  Claim7.holds_tied_plain_at .later [] [.sentinel, .sentinel, .sentinel] true (true, "da26760cf75b9c293af45aeb444ad4429ad40f1d87a6779f4b8aeacaf9e154b5") true
    readyBlocks_holds (fun _ h => by cases h) (by kernel_rfl) (fun _ h => by cases h) readyBlocks_row_tie rfl ⟨rfl, rfl⟩ (by kernel_rfl) rfl
    (fun f fn hf hfn => by
      obtain rfl : f = 14 := Option.some.inj ((show Tryd.prog.funcNamed "ferry/ferrylaw09.ReadyBlocks" = some 14 by kernel_rfl).symm.trans hf) |>.symm
      obtain rfl : fn = Tryd.f14 := (Option.some.inj (Tryd.func14.symm.trans hfn)).symm
      exact ⟨by kernel_rfl, fun j t ht => by
        rw [Tryd.params14] at ht
        have hm : t ∈ [88] := by
          exact Array.mem_toList_iff.2 (Array.mem_of_getElem? ht)
        simp at hm
        subst hm; exact (show Tryd.prog.wantsStandIn 88 = false by kernel_rfl)⟩)
    (by kernel_rfl)
#print axioms readyBlocks_card
end Go.Proofs.YtjjiphigolegbaaDoor
