/-
  ReadyHolds: for every table and every script the law returns true, and the arguments read as before. Conditions: the row's own (the listed variables hold what the text lays). By an AI agent; no person has read it.
-/
import Derived.Test.YtjjiphigolegbabGreatDoorFvRA
import Derived.Test.YtjjiphigolegbabGreatDoorFvRE
import Derived.Test.YtjjiphigolegbabGreatDoorFvSqN
set_option linter.unusedVariables false
set_option linter.unusedSimpArgs false
set_option linter.unusedSectionVars false
/-! ReadyHolds: for every table and every script the law returns true, and the arguments read as before. Conditions: the row's own (the listed variables hold what the text lays). -/
namespace Go.Proofs.YtjjiphigolegbabGreatDoor
open Go Go.Fv Go.Fv.Pl Go.Fv.Tr Go.ChangeShapes Go.WideShapes Go.RowKit

set_option maxRecDepth 100000 in
theorem readyHolds_lifted (os : Os) (started : os.Started) (H : Type) (enc : TypeId × Value → H) :
    ReturnsInHanded {} Tryz.checked os 4 .any (fun w args => (Rows.readyHoldsSpec.pre enc Tryz.prog Tryz.f4 [] false w args ∧ laidMetH Tryz.prog laid20 w) ∧ sizedMet enc Tryz.prog Tryz.f4 (OpenSpec.ofChange Rows.readyHoldsSpec) false w args)
      (Rows.readyHoldsSpec.post enc Tryz.prog Tryz.f4 false true false false) := by
  refine returnsInHanded_of_change_and (C := Tryz.checked) (X := fun w _ => laidMetH Tryz.prog laid20 w) (fun _ _ _ hh h => h.of_heap hh) own started (by kernel_rfl) Tryz.func4
    (ChangeSpec.witness_at (enc := enc) (C := Tryz.checked) (os := os) (X := fun w _ => laidMetH Tryz.prog laid20 w) false (laidWorld20 os) #[.agg #[.slice none 0 0, .slice none 0 0, .slice none 0 0], .slice none 0 0] 8 rfl (by kernel_rfl) (by kernel_rfl) (by kernel_rfl) (by kernel_rfl) (by kernel_rfl) (laid_met20 os _)) ?_
  intro W base args ds gs before hval hW _ hsz hL _
  obtain ⟨σ, hap, gl⟩ := glob20 hL
  have hW0 := hW
  obtain ⟨p, q, hA, _⟩ := hW0
  have hA' : DataW.TrodAll enc Tryz.prog W 0 (fun _ => true) true Tryz.f4.params.toList args.toList ds p := hA
  rw [Tryz.params4] at hA'
  obtain ⟨v0, v1, d0, d1, _, _, _, hd, _⟩ := trodAll_two hA'
  refine law_contract (C := cfg G20) (n := 5) (tb := 4) (good hap) kids full (by rw [Tryz.params4]; intro t ht; simp at ht; exact (ht.elim (fun e => by subst e; exact of_decide_eq_true (by kernel_rfl)) (fun q => (by subst q; exact of_decide_eq_true (by kernel_rfl))))) (by rw [Tryz.params4]; intro t ht; simp at ht; exact (ht.elim (fun e => by subst e; exact in26) (fun q => (by subst q; exact inOps)))) rfl (by rw [hd]; rfl) (by kernel_rfl) Tryz.underlying4 hval hW hsz gl ?_
  intro xs hxs _
  rw [Tryz.params4] at hxs
  obtain ⟨x, a, rfl, ⟨l, hl, rfl⟩, ⟨la, ha, rfl⟩⟩ := shs2 (P := Tryz.prog) (n := 5) hxs
  obtain ⟨x, y, z, t, rfl, ht, _⟩ := sh_tab (n := 0) hl
  obtain ⟨sc, ops, rfl, hs, ho⟩ := sh_ops (n := 2) ha
  rw [argV26, argVOps]
  obtain ⟨v, H', e, rfl⟩ := holds_run aerrs20 0 ht hs ho
  exact ⟨_, H', e⟩

theorem readyHolds_holds : Rows.ReadyHoldsSaid :=
  OpenClaim.holds_of_wide 4 Tryz.f4 rfl rfl rfl rfl rfl rfl rfl ⟨rfl, rfl, rfl, rfl, rfl⟩ rfl rfl rfl rfl rfl (by kernel_rfl) Tryz.func4 (by kernel_rfl)
    (of_decide_eq_true (by kernel_rfl)) (by unfold Func.isWrapper; rw [if_neg (of_decide_eq_false (by kernel_rfl))]; exact ⟨rfl, rfl⟩)
    (fun os started H enc _ => readyHolds_lifted os started H enc)

theorem readyHolds_card : Rows.ReadyHoldsCardSaid :=
  Claim7.holds_tied_plain_at .later [] [.handle, .sentinel, .sentinel, .sentinel, .sentinel, .sentinel, .sentinel, .sentinel, .sentinel, .sentinel, .sentinel, .sentinel, .sentinel, .sentinel, .sentinel, .sentinel, .sentinel, .sentinel, .sentinel, .sentinel, .sentinel] true (true, "0474f304735dd34a04b51dfd36a0d272ee9390de6d6f68bfdb858d39a7d5c8e9") true
    readyHolds_holds (fun _ h => by cases h) (by kernel_rfl) (fun _ h => by cases h) readyHolds_row_tie rfl ⟨rfl, rfl⟩ (by kernel_rfl) rfl
    (fun f fn hf hfn => by
      obtain rfl : f = 4 := Option.some.inj ((show Tryz.prog.funcNamed "ferry/ferrylaw09.ReadyHolds" = some 4 by kernel_rfl).symm.trans hf) |>.symm
      obtain rfl : fn = Tryz.f4 := (Option.some.inj (Tryz.func4.symm.trans hfn)).symm
      exact ⟨by kernel_rfl, fun j t ht => by
        rw [Tryz.params4] at ht
        have hm : t ∈ [26, 49] := by
          exact Array.mem_toList_iff.2 (Array.mem_of_getElem? ht)
        simp at hm
        exact (hm.elim (fun e => by subst e; exact (show Tryz.prog.wantsStandIn 26 = false by kernel_rfl)) (fun q => (by subst q; exact (show Tryz.prog.wantsStandIn 49 = false by kernel_rfl))))⟩)
    (by kernel_rfl)
#print axioms readyHolds_card
end Go.Proofs.YtjjiphigolegbabGreatDoor
