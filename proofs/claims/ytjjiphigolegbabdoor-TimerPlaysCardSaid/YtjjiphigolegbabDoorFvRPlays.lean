/-
  TimerPlays: for every list and every script of calls the law returns true, and the arguments read as before. Conditions: the row's own (the listed variables hold what the text lays). By an AI agent; no person has read it.
-/
import Derived.Test.YtjjiphigolegbabDoorFvRA
import Derived.Test.YtjjiphigolegbabDoorFvRF
set_option linter.unusedVariables false
set_option linter.unusedSimpArgs false
set_option linter.unusedSectionVars false
/-! TimerPlays: for every list and every script of calls the law returns true, and the arguments read as before. Conditions: the row's own (the listed variables hold what the text lays). -/
namespace Go.Proofs.YtjjiphigolegbabDoor
open Go Go.Fv Go.Fv.Pl Go.Fv.Tr Go.ChangeShapes Go.WideShapes Go.RowKit

set_option maxRecDepth 100000 in
theorem timerPlays_lifted (os : Os) (started : os.Started) (H : Type) (enc : TypeId × Value → H) :
    ReturnsInHanded {} Tryd.checked os 5 .any (fun w args => (Rows.timerPlaysSpec.pre enc Tryd.prog Tryd.f5 [] false w args ∧ laidMetH Tryd.prog laid20 w) ∧ sizedMet enc Tryd.prog Tryd.f5 (OpenSpec.ofChange Rows.timerPlaysSpec) false w args)
      (Rows.timerPlaysSpec.post enc Tryd.prog Tryd.f5 false true false false) := by
  refine returnsInHanded_of_change_and (C := Tryd.checked) (X := fun w _ => laidMetH Tryd.prog laid20 w) (fun _ _ _ hh h => h.of_heap hh) own started (by kernel_rfl) Tryd.func5
    (ChangeSpec.witness_at (enc := enc) (C := Tryd.checked) (os := os) (X := fun w _ => laidMetH Tryd.prog laid20 w) false (laidWorld20 os) #[.slice none 0 0, .slice none 0 0] 8 rfl (by kernel_rfl) (by kernel_rfl) (by kernel_rfl) (by kernel_rfl) (by kernel_rfl) (laid_met20 os _)) ?_
  intro W base args ds gs before hval hW _ hsz hL _
  obtain ⟨σ, hap, gl⟩ := glob20 hL
  have hW0 := hW
  obtain ⟨p, q, hA, _⟩ := hW0
  have hA' : DataW.TrodAll enc Tryd.prog W 0 (fun _ => true) true Tryd.f5.params.toList args.toList ds p := hA
  rw [Tryd.params5] at hA'
  obtain ⟨v0, v1, d0, d1, _, _, _, hd, _⟩ := trodAll_two hA'
  refine law_contract (C := cfg G20) (n := 5) (tb := 4) (good hap) kids full (by rw [Tryd.params5]; intro t ht; simp at ht; exact (ht.elim (fun e => by subst e; exact of_decide_eq_true (by kernel_rfl)) (fun q => (by subst q; exact of_decide_eq_true (by kernel_rfl))))) (by rw [Tryd.params5]; intro t ht; simp at ht; exact (ht.elim (fun e => by subst e; exact in24) (fun q => (by subst q; exact inOps3)))) rfl (by rw [hd]; rfl) (by kernel_rfl) Tryd.underlying4 hval hW hsz gl ?_
  intro xs hxs _
  rw [Tryd.params5] at hxs
  obtain ⟨x, a, rfl, ⟨l, hl, rfl⟩, ⟨la, ha, rfl⟩⟩ := shs2 (P := Tryd.prog) (n := 5) hxs
  obtain ⟨x, ts, rfl, hs, hb, hr, _⟩ := sh_ts (n := 2) hl
  obtain ⟨sc, ops, rfl, hc, ho⟩ := sh_ops3 (n := 2) ha
  rw [argV24, argVOps3]
  obtain ⟨v, H', e, rfl⟩ := plays_run aerrs20 0 hs (Nat.le_trans hr (by unfold reachBytes room; omega)) hc ho
  exact ⟨_, H', e⟩

theorem timerPlays_holds : Rows.TimerPlaysSaid :=
  OpenClaim.holds_of_wide 5 Tryd.f5 rfl rfl rfl rfl rfl rfl rfl ⟨rfl, rfl, rfl, rfl, rfl⟩ rfl rfl rfl rfl rfl (by kernel_rfl) Tryd.func5 (by kernel_rfl)
    (of_decide_eq_true (by kernel_rfl)) (by unfold Func.isWrapper; rw [if_neg (of_decide_eq_false (by kernel_rfl))]; exact ⟨rfl, rfl⟩)
    (fun os started H enc _ => timerPlays_lifted os started H enc)

theorem timerPlays_card : Rows.TimerPlaysCardSaid :=
  Claim7.holds_tied_plain_at .later [] [.handle, .sentinel, .sentinel, .sentinel, .sentinel, .sentinel, .sentinel, .sentinel, .sentinel, .sentinel, .sentinel, .sentinel, .sentinel, .sentinel, .sentinel, .sentinel, .sentinel, .sentinel, .sentinel, .sentinel, .sentinel] true (true, "154ce7c7dacc82b4046156975aaea07803acf433e94ec10ae30950a326bd61f9") true
    timerPlays_holds (fun _ h => by cases h) (by kernel_rfl) (fun _ h => by cases h) timerPlays_row_tie rfl ⟨rfl, rfl⟩ (by kernel_rfl) rfl
    (fun f fn hf hfn => by
      obtain rfl : f = 5 := Option.some.inj ((show Tryd.prog.funcNamed "ferry/ferrylaw08.TimerPlays" = some 5 by kernel_rfl).symm.trans hf) |>.symm
      obtain rfl : fn = Tryd.f5 := (Option.some.inj (Tryd.func5.symm.trans hfn)).symm
      exact ⟨by kernel_rfl, fun j t ht => by
        rw [Tryd.params5] at ht
        have hm : t ∈ [24, 79] := by
          exact Array.mem_toList_iff.2 (Array.mem_of_getElem? ht)
        simp at hm
        exact (hm.elim (fun e => by subst e; exact (show Tryd.prog.wantsStandIn 24 = false by kernel_rfl)) (fun q => (by subst q; exact (show Tryd.prog.wantsStandIn 79 = false by kernel_rfl))))⟩)
    (by kernel_rfl)
#print axioms timerPlays_card
end Go.Proofs.YtjjiphigolegbabDoor
