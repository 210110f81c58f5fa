/-
  TimerRelative: for every list and all numbers the law returns true, and the arguments read as before. Conditions: the row's own (the listed variables hold what the text lays). By an AI agent; no person has read it.
-/
import Derived.Test.YtjjiphigolegbaaDoorFvRA4
import Derived.Test.YtjjiphigolegbaaDoorFvRC
import Derived.Test.YtjjiphigolegbaaDoorFvSpT
set_option linter.unusedVariables false
set_option linter.unusedSimpArgs false
set_option linter.unusedSectionVars false
/-! TimerRelative: for every list and all numbers the law returns true, and the arguments read as before. Conditions: the row's own (the listed variables hold what the text lays). -/
namespace Go.Proofs.YtjjiphigolegbaaDoor
open Go Go.Fv Go.Fv.Pl Go.Fv.Tr Go.ChangeShapes Go.WideShapes Go.RowKit

set_option maxRecDepth 100000 in
theorem timerRelative_lifted (os : Os) (started : os.Started) (H : Type) (enc : TypeId × Value → H) :
    ReturnsInHanded {} Tryd.checked os 13 .any (fun w args => (Rows.timerRelativeSpec.pre enc Tryd.prog Tryd.f13 [] false w args ∧ laidMetH Tryd.prog laid4 w) ∧ sizedMet enc Tryd.prog Tryd.f13 (OpenSpec.ofChange Rows.timerRelativeSpec) false w args)
      (Rows.timerRelativeSpec.post enc Tryd.prog Tryd.f13 false true false false) := by
  refine returnsInHanded_of_change_and (C := Tryd.checked) (X := fun w _ => laidMetH Tryd.prog laid4 w) (fun _ _ _ hh h => h.of_heap hh) own started (by kernel_rfl) Tryd.func13
    (ChangeSpec.witness_at (enc := enc) (C := Tryd.checked) (os := os) (X := fun w _ => laidMetH Tryd.prog laid4 w) false (laidWorld4 os) #[.slice none 0 0, .int .i64 0, .int .i64 0] 8 rfl (by kernel_rfl) (by kernel_rfl) (by kernel_rfl) (by kernel_rfl) (by kernel_rfl) (laid_met4 os _)) ?_
  intro W base args ds gs before hval hW _ hsz hL _
  obtain ⟨σ, hap, gl⟩ := glob4 hL
  have hW0 := hW
  obtain ⟨p, q, hA, _⟩ := hW0
  have hA' : DataW.TrodAll enc Tryd.prog W 0 (fun _ => true) true Tryd.f13.params.toList args.toList ds p := hA
  rw [Tryd.params13] at hA'
  obtain ⟨v0, v1, v2, d0, d1, d2, _, _, _, _, hd, _⟩ := trodAll_three hA'
  refine law_contract (C := cfg G4) (n := 5) (tb := 4) (good hap) kids full (by rw [Tryd.params13]; intro t ht; simp at ht; exact (ht.elim (fun e => by subst e; exact of_decide_eq_true (by kernel_rfl)) (fun q => (by subst q; exact of_decide_eq_true (by kernel_rfl))))) (by rw [Tryd.params13]; intro t ht; simp at ht; exact (ht.elim (fun e => by subst e; exact in24) (fun q => (by subst q; exact in3)))) rfl (by rw [hd]; rfl) (by kernel_rfl) Tryd.underlying4 hval hW hsz gl ?_
  intro xs hxs _
  rw [Tryd.params13] at hxs
  obtain ⟨x, a, b, rfl, ⟨l, hl, rfl⟩, ⟨la, ha, rfl⟩, ⟨lb, hb, rfl⟩⟩ := shs3 (P := Tryd.prog) (n := 5) hxs
  obtain ⟨x, ts, rfl, ht, hlen, _, _⟩ := sh_ts (n := 2) hl
  obtain ⟨na, rfl, wa⟩ := sh_i (n := 4) ha
  obtain ⟨nb, rfl, wb⟩ := sh_i (n := 4) hb
  rw [argV24, argV3, argV3]
  obtain ⟨v, H', e, rfl⟩ := relative_run terrs4 0 ht hlen na nb
  exact ⟨_, H', e⟩

theorem timerRelative_holds : Rows.TimerRelativeSaid :=
  OpenClaim.holds_of_wide 13 Tryd.f13 rfl rfl rfl rfl rfl rfl rfl ⟨rfl, rfl, rfl, rfl, rfl⟩ rfl rfl rfl rfl rfl (by kernel_rfl) Tryd.func13 (by kernel_rfl)
    (of_decide_eq_true (by kernel_rfl)) (by unfold Func.isWrapper; rw [if_neg (of_decide_eq_false (by kernel_rfl))]; exact ⟨rfl, rfl⟩)
    (fun os started H enc _ => timerRelative_lifted os started H enc)

theorem timerRelative_card : Rows.TimerRelativeCardSaid :=
  Claim7.holds_tied_plain_at .later [] [.sentinel, .sentinel, .sentinel] true (true, "da26760cf75b9c293af45aeb444ad4429ad40f1d87a6779f4b8aeacaf9e154b5") true
    timerRelative_holds (fun _ h => by cases h) (by kernel_rfl) (fun _ h => by cases h) timerRelative_row_tie rfl ⟨rfl, rfl⟩ (by kernel_rfl) rfl
    (fun f fn hf hfn => by
      obtain rfl : f = 13 := Option.some.inj ((show Tryd.prog.funcNamed "ferry/ferrylaw08.TimerRelative" = some 13 by kernel_rfl).symm.trans hf) |>.symm
      obtain rfl : fn = Tryd.f13 := (Option.some.inj (Tryd.func13.symm.trans hfn)).symm
      exact ⟨by kernel_rfl, fun j t ht => by
        rw [Tryd.params13] at ht
        have hm : t ∈ [24, 3, 3] := by
          exact Array.mem_toList_iff.2 (Array.mem_of_getElem? ht)
        simp at hm
        exact (hm.elim (fun e => by subst e; exact (show Tryd.prog.wantsStandIn 24 = false by kernel_rfl)) (fun q => (by subst q; exact (show Tryd.prog.wantsStandIn 3 = false by kernel_rfl))))⟩)
    (by kernel_rfl)
#print axioms timerRelative_card
end Go.Proofs.YtjjiphigolegbaaDoor
