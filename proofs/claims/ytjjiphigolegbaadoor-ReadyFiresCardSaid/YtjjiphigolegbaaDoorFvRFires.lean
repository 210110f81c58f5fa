/-
  ReadyFires: for every table and all times the law returns true, and the arguments read as before. Conditions: the row's own (the listed variables hold what the text lays). By an AI agent; no person has read it.
-/
import Derived.Test.YtjjiphigolegbaaDoorFvRA
import Derived.Test.YtjjiphigolegbaaDoorFvRD
import Derived.Test.YtjjiphigolegbaaDoorFvSqG
set_option linter.unusedVariables false
set_option linter.unusedSimpArgs false
set_option linter.unusedSectionVars false
/-! ReadyFires: for every table and all times the law returns true, and the arguments read as before. Conditions: the row's own (the listed variables hold what the text lays). -/
namespace Go.Proofs.YtjjiphigolegbaaDoor
open Go Go.Fv Go.Fv.Pl Go.Fv.Tr Go.ChangeShapes Go.WideShapes Go.RowKit

set_option maxRecDepth 100000 in
theorem readyFires_lifted (os : Os) (started : os.Started) (H : Type) (enc : TypeId × Value → H) :
    ReturnsInHanded {} Tryd.checked os 8 .any (fun w args => (Rows.readyFiresSpec.pre enc Tryd.prog Tryd.f8 [] false w args ∧ laidMetH Tryd.prog laid20 w) ∧ sizedMet enc Tryd.prog Tryd.f8 (OpenSpec.ofChange Rows.readyFiresSpec) false w args)
      (Rows.readyFiresSpec.post enc Tryd.prog Tryd.f8 false true false false) := by
  refine returnsInHanded_of_change_and (C := Tryd.checked) (X := fun w _ => laidMetH Tryd.prog laid20 w) (fun _ _ _ hh h => h.of_heap hh) own started (by kernel_rfl) Tryd.func8
    (ChangeSpec.witness_at (enc := enc) (C := Tryd.checked) (os := os) (X := fun w _ => laidMetH Tryd.prog laid20 w) false (laidWorld20 os) #[.agg #[.slice none 0 0, .slice none 0 0, .slice none 0 0], .int .i64 0, .int .i64 0] 8 rfl (by kernel_rfl) (by kernel_rfl) (by kernel_rfl) (by kernel_rfl) (by kernel_rfl) (laid_met20 os _)) ?_
  intro W base args ds gs before hval hW _ hsz hL _
  obtain ⟨σ, hap, gl⟩ := glob20 hL
  have hW0 := hW
  obtain ⟨p, q, hA, _⟩ := hW0
  have hA' : DataW.TrodAll enc Tryd.prog W 0 (fun _ => true) true Tryd.f8.params.toList args.toList ds p := hA
  rw [Tryd.params8] at hA'
  obtain ⟨v0, v1, v2, d0, d1, d2, _, _, _, _, hd, _⟩ := trodAll_three hA'
  refine law_contract (C := cfg G20) (n := 5) (tb := 4) (good hap) kids full (by rw [Tryd.params8]; intro t ht; simp at ht; exact (ht.elim (fun e => by subst e; exact of_decide_eq_true (by kernel_rfl)) (fun q => (by subst q; exact of_decide_eq_true (by kernel_rfl))))) (by rw [Tryd.params8]; intro t ht; simp at ht; exact (ht.elim (fun e => by subst e; exact in26) (fun q => (by subst q; exact in3)))) rfl (by rw [hd]; rfl) (by kernel_rfl) Tryd.underlying4 hval hW hsz gl ?_
  intro xs hxs _
  rw [Tryd.params8] at hxs
  obtain ⟨x, a, b, rfl, ⟨l, hl, rfl⟩, ⟨la, ha, rfl⟩, ⟨lb, hb, rfl⟩⟩ := shs3 (P := Tryd.prog) (n := 5) hxs
  obtain ⟨x, y, z, t, rfl, ht, _⟩ := sh_tab (n := 0) hl
  obtain ⟨na, rfl, wa⟩ := sh_i (n := 4) ha
  obtain ⟨nb, rfl, wb⟩ := sh_i (n := 4) hb
  rw [argV26, argV3, argV3]
  obtain ⟨v, H', e, rfl⟩ := fires_run aerrs20 0 ht na nb
  exact ⟨_, H', e⟩

theorem readyFires_holds : Rows.ReadyFiresSaid :=
  OpenClaim.holds_of_wide 8 Tryd.f8 rfl rfl rfl rfl rfl rfl rfl ⟨rfl, rfl, rfl, rfl, rfl⟩ rfl rfl rfl rfl rfl (by kernel_rfl) Tryd.func8 (by kernel_rfl)
    (of_decide_eq_true (by kernel_rfl)) (by unfold Func.isWrapper; rw [if_neg (of_decide_eq_false (by kernel_rfl))]; exact ⟨rfl, rfl⟩)
    (fun os started H enc _ => readyFires_lifted os started H enc)

theorem readyFires_card : Rows.ReadyFiresCardSaid :=
  Claim7.holds_tied_plain_at .later [] [.handle, .sentinel, .sentinel, .sentinel, .sentinel, .sentinel, .sentinel, .sentinel, .sentinel, .sentinel, .sentinel, .sentinel, .sentinel, .sentinel, .sentinel, .sentinel, .sentinel, .sentinel, .sentinel, .sentinel, .sentinel] true (true, "da26760cf75b9c293af45aeb444ad4429ad40f1d87a6779f4b8aeacaf9e154b5") true
    readyFires_holds (fun _ h => by cases h) (by kernel_rfl) (fun _ h => by cases h) readyFires_row_tie rfl ⟨rfl, rfl⟩ (by kernel_rfl) rfl
    (fun f fn hf hfn => by
      obtain rfl : f = 8 := Option.some.inj ((show Tryd.prog.funcNamed "ferry/ferrylaw09.ReadyFires" = some 8 by kernel_rfl).symm.trans hf) |>.symm
      obtain rfl : fn = Tryd.f8 := (Option.some.inj (Tryd.func8.symm.trans hfn)).symm
      exact ⟨by kernel_rfl, fun j t ht => by
        rw [Tryd.params8] at ht
        have hm : t ∈ [26, 3, 3] := by
          exact Array.mem_toList_iff.2 (Array.mem_of_getElem? ht)
        simp at hm
        exact (hm.elim (fun e => by subst e; exact (show Tryd.prog.wantsStandIn 26 = false by kernel_rfl)) (fun q => (by subst q; exact (show Tryd.prog.wantsStandIn 3 = false by kernel_rfl))))⟩)
    (by kernel_rfl)
#print axioms readyFires_card
end Go.Proofs.YtjjiphigolegbaaDoor
