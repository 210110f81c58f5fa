/-
  ReadyMoves: for every case the law returns true, and the case reads as before. Conditions: the row's own (the listed variables hold what the text lays). By an AI agent; no person has read it.
-/
import Derived.Test.YtjjiphigolegbabGreatDoorFvRA
import Derived.Test.YtjjiphigolegbabGreatDoorFvW8
import Derived.Test.YtjjiphigolegbabGreatDoorFvSqM
set_option linter.unusedVariables false
set_option linter.unusedSimpArgs false
set_option linter.unusedSectionVars false
/-! ReadyMoves: for every case the law returns true, and the case reads as before. Conditions: the row's own (the listed variables hold what the text lays). -/
namespace Go.Proofs.YtjjiphigolegbabGreatDoor
open Go Go.Fv Go.Fv.Pl Go.Fv.Tr Go.ChangeShapes Go.WideShapes Go.RowKit

set_option maxRecDepth 100000 in
theorem readyMoves_lifted (os : Os) (started : os.Started) (H : Type) (enc : TypeId × Value → H) :
    ReturnsInHanded {} Tryz.checked os 3 .any (fun w args => (Rows.readyMovesSpec.pre enc Tryz.prog Tryz.f3 [] false w args ∧ laidMetH Tryz.prog laid20 w) ∧ sizedMet enc Tryz.prog Tryz.f3 (OpenSpec.ofChange Rows.readyMovesSpec) false w args)
      (Rows.readyMovesSpec.post enc Tryz.prog Tryz.f3 false true false false) := by
  refine returnsInHanded_of_change_and (C := Tryz.checked) (X := fun w _ => laidMetH Tryz.prog laid20 w) (fun _ _ _ hh h => h.of_heap hh) own started (by kernel_rfl) Tryz.func3
    (ChangeSpec.witness_at (enc := enc) (C := Tryz.checked) (os := os) (X := fun w _ => laidMetH Tryz.prog laid20 w) false (laidWorld20 os) #[.agg #[.slice none 0 0, .slice none 0 0, .slice none 0 0, .int .i64 0, .int .i64 0, .int .i64 0, .int .i64 0, .int .i64 0, .int .i64 0, .int .i64 0, .int .u32 0]] 8 rfl (by kernel_rfl) (by kernel_rfl) (by kernel_rfl) (by kernel_rfl) (by kernel_rfl) (laid_met20 os _)) ?_
  intro W base args ds gs before hval hW _ hsz hL _
  obtain ⟨σ, hap, gl⟩ := glob20 hL
  have hW0 := hW
  obtain ⟨p, q, hA, _⟩ := hW0
  have hA' : DataW.TrodAll enc Tryz.prog W 0 (fun _ => true) true Tryz.f3.params.toList args.toList ds p := hA
  rw [Tryz.params3] at hA'
  obtain ⟨v0, d0, _, hd, _⟩ := trodAll_one hA'
  refine law_contract (C := cfg G20) (n := 6) (tb := 4) (good hap) kids full (by rw [Tryz.params3]; intro t ht; simp at ht; subst ht; exact of_decide_eq_true (by kernel_rfl)) (by rw [Tryz.params3]; intro t ht; simp at ht; subst ht; exact in88) rfl (by rw [hd]; rfl) (by kernel_rfl) Tryz.underlying4 hval hW hsz gl ?_
  intro xs hxs _
  rw [Tryz.params3] at hxs
  obtain ⟨x, rfl, l, hl, rfl⟩ := shs1 (P := Tryz.prog) (n := 6) hxs
  obtain ⟨x, y, z, t, pr, w, o, du, pi, st, nw, r1, rfl, ht, hw, w1, w2, w3, w4, w5, w6, w7, w8⟩ := sh_case (n := 0) hl
  rw [argV88]
  obtain ⟨v, H', e, rfl⟩ := moves_run aerrs20 0 ht pr w o du pi st nw r1
  exact ⟨_, H', e⟩

theorem readyMoves_holds : Rows.ReadyMovesSaid :=
  OpenClaim.holds_of_wide 3 Tryz.f3 rfl rfl rfl rfl rfl rfl rfl ⟨rfl, rfl, rfl, rfl, rfl⟩ rfl rfl rfl rfl rfl (by kernel_rfl) Tryz.func3 (by kernel_rfl)
    (of_decide_eq_true (by kernel_rfl)) (by unfold Func.isWrapper; rw [if_neg (of_decide_eq_false (by kernel_rfl))]; exact ⟨rfl, rfl⟩)
    (fun os started H enc _ => readyMoves_lifted os started H enc)

theorem readyMoves_card : Rows.ReadyMovesCardSaid :=
  Claim7.holds_tied_plain_at .later [] [.handle, .sentinel, .sentinel, .sentinel, .sentinel, .sentinel, .sentinel, .sentinel, .sentinel, .sentinel, .sentinel, .sentinel, .sentinel, .sentinel, .sentinel, .sentinel, .sentinel, .sentinel, .sentinel, .sentinel, .sentinel] true (true, "0474f304735dd34a04b51dfd36a0d272ee9390de6d6f68bfdb858d39a7d5c8e9") true
    readyMoves_holds (fun _ h => by cases h) (by kernel_rfl) (fun _ h => by cases h) readyMoves_row_tie rfl ⟨rfl, rfl⟩ (by kernel_rfl) rfl
    (fun f fn hf hfn => by
      obtain rfl : f = 3 := Option.some.inj ((show Tryz.prog.funcNamed "ferry/ferrylaw09.ReadyMoves" = some 3 by kernel_rfl).symm.trans hf) |>.symm
      obtain rfl : fn = Tryz.f3 := (Option.some.inj (Tryz.func3.symm.trans hfn)).symm
      exact ⟨by kernel_rfl, fun j t ht => by
        rw [Tryz.params3] at ht
        have hm : t ∈ [29] := by
          exact Array.mem_toList_iff.2 (Array.mem_of_getElem? ht)
        simp at hm
        subst hm; exact (show Tryz.prog.wantsStandIn 29 = false by kernel_rfl)⟩)
    (by kernel_rfl)
#print axioms readyMoves_card
end Go.Proofs.YtjjiphigolegbabGreatDoor
