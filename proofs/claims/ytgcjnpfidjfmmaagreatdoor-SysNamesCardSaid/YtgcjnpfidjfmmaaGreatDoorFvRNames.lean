/-
  SysNames: for every number and every word the law returns true. Conditions: the row's own (the listed variables hold what the text lays). By an AI agent; no person has read it.
-/
import Derived.Test.YtgcjnpfidjfmmaaGreatDoorFvRN
import Derived.Test.YtgcjnpfidjfmmaaGreatDoorFvSnA
set_option linter.unusedVariables false
set_option linter.unusedSimpArgs false
set_option linter.unusedSectionVars false
/-! SysNames: for every number and every word the law returns true. Conditions: the row's own (the listed variables hold what the text lays). -/
namespace Go.Proofs.YtgcjnpfidjfmmaaGreatDoor
open Go Go.Fv Go.Fv.Tr Go.ChangeShapes Go.WideShapes Go.RowKit

set_option maxRecDepth 100000 in
theorem sysNames_lifted (os : Os) (started : os.Started) (H : Type) (enc : TypeId × Value → H) :
    ReturnsInHanded {} Tryz.checked os 3 .any (fun w args => (Rows.sysNamesSpec.pre enc Tryz.prog Tryz.f3 [] false w args ∧ laidMetH Tryz.prog laid0 w) ∧ sizedMet enc Tryz.prog Tryz.f3 (OpenSpec.ofChange Rows.sysNamesSpec) false w args)
      (Rows.sysNamesSpec.post enc Tryz.prog Tryz.f3 false true false false) := by
  refine returnsInHanded_of_change_and (C := Tryz.checked) (X := fun w _ => laidMetH Tryz.prog laid0 w) (fun _ _ _ hh h => h.of_heap hh) own started (by kernel_rfl) Tryz.func3
    (ChangeSpec.witness_at (enc := enc) (C := Tryz.checked) (os := os) (X := fun w _ => laidMetH Tryz.prog laid0 w) false (laidWorld0 os) #[.int .i64 0, .string "".toUTF8] 8 rfl (by kernel_rfl) (by kernel_rfl) (by kernel_rfl) (by kernel_rfl) (by kernel_rfl) (laid_met0 os _)) ?_
  intro W base args ds gs before hval hW _ hsz hL _
  obtain ⟨σ, hap, gl⟩ := glob0 hL
  have hW0 := hW
  obtain ⟨p, q, hA, _⟩ := hW0
  have hA' : DataW.TrodAll enc Tryz.prog W 0 (fun _ => true) true Tryz.f3.params.toList args.toList ds p := hA
  rw [Tryz.params3] at hA'
  obtain ⟨v0, v1, d0, d1, _, _, _, hd, _⟩ := trodAll_two hA'
  refine law_contract (C := cfg G0) (n := 5) (tb := 4) good0 kids full (by rw [Tryz.params3]; intro t ht; simp at ht; exact (ht.elim (fun e => by subst e; exact of_decide_eq_true (by kernel_rfl)) (fun q => (by subst q; exact of_decide_eq_true (by kernel_rfl))))) (by rw [Tryz.params3]; intro t ht; simp at ht; exact (ht.elim (fun e => by subst e; exact inI) (fun q => (by subst q; exact inS)))) rfl (by rw [hd]; rfl) (by kernel_rfl) Tryz.underlying4 hval hW hsz gl ?_
  intro xs hxs _
  rw [Tryz.params3] at hxs
  obtain ⟨x, y, rfl, ⟨l, hl, rfl⟩, ⟨k, hk, rfl⟩⟩ := shs2 (P := Tryz.prog) (n := 5) hxs
  obtain ⟨m, rfl, hm⟩ := sh_i (n := 4) hl
  obtain ⟨s, rfl, hs⟩ := sh_s (n := 4) hk
  rw [argVI, argVS, ← bs_toList s]
  obtain ⟨v, H', e, rfl⟩ := names_run (G := G0) 0 m s.data.toList
  exact ⟨_, H', e⟩

theorem sysNames_holds : Rows.SysNamesSaid :=
  OpenClaim.holds_of_wide 3 Tryz.f3 rfl rfl rfl rfl rfl rfl rfl ⟨rfl, rfl, rfl, rfl, rfl⟩ rfl rfl rfl rfl rfl (by kernel_rfl) Tryz.func3 (by kernel_rfl)
    (of_decide_eq_true (by kernel_rfl)) (by unfold Func.isWrapper; rw [if_neg (of_decide_eq_false (by kernel_rfl))]; exact ⟨rfl, rfl⟩)
    (fun os started H enc _ => sysNames_lifted os started H enc)

theorem sysNames_card : Rows.SysNamesCardSaid :=
  Claim7.holds_tied_plain_at .later [] [.sentinel, .sentinel, .sentinel, .sentinel, .sentinel, .sentinel, .sentinel, .sentinel] true (true, "7432b72fd673eb4ff07aecb78ec6dcb08c73d17d338bd55b6989bf9cadd8f49b") false
    sysNames_holds (fun _ h => by cases h) (by kernel_rfl) (fun _ h => by cases h) sysNames_row_tie rfl ⟨rfl, rfl⟩ (by kernel_rfl) rfl
    (fun f fn hf hfn => by
      obtain rfl : f = 3 := Option.some.inj ((show Tryz.prog.funcNamed "ferry/ferrylaw12.SysNames" = some 3 by kernel_rfl).symm.trans hf) |>.symm
      obtain rfl : fn = Tryz.f3 := (Option.some.inj (Tryz.func3.symm.trans hfn)).symm
      exact ⟨by kernel_rfl, fun j t ht => by
        rw [Tryz.params3] at ht
        have hm : t ∈ [3, 9] := by
          exact Array.mem_toList_iff.2 (Array.mem_of_getElem? ht)
        simp at hm
        exact (hm.elim (fun e => by subst e; exact (show Tryz.prog.wantsStandIn 3 = false by kernel_rfl)) (fun q => (by subst q; exact (show Tryz.prog.wantsStandIn 9 = false by kernel_rfl))))⟩)
    (by kernel_rfl)
#print axioms sysNames_card
end Go.Proofs.YtgcjnpfidjfmmaaGreatDoor
