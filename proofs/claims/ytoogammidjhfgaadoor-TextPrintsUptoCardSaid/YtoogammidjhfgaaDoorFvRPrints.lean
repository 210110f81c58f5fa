/-
  TextPrints, of scripts of bulk at most 1048576: the law returns true, and the script reads as before. Conditions: the row's own (the listed variables hold what the text lays). By an AI agent; no person has read it.
-/
import Derived.Test.YtoogammidjhfgaaDoorFvRM
import Derived.Test.YtoogammidjhfgaaDoorFvBulk
import Derived.Deep.DeepHandedRow
import Derived.Deep.DeepWitnessRowRef
import Derived.Test.YtoogammidjhfgaaDoorFvRS2
set_option linter.unusedVariables false
set_option linter.unusedSimpArgs false
set_option linter.unusedSectionVars false
/-! TextPrints, of scripts of bulk at most 1048576: the law returns true, and the script reads as before. Conditions: the row's own (the listed variables hold what the text lays). -/
namespace Go.Proofs.YtoogammidjhfgaaDoor
open Go Go.Fv Go.Fv.Tr Go.ChangeShapes Go.WideShapes Go.RowKit

theorem isBulk {H : Type} : IsBulk (H := H) Rows.uptoBulk Rows.uptoBulkAll where
  one d := by
    cases d with
    | lit l => cases l <;> simp [Rows.uptoBulk]
    | _ => simp [Rows.uptoBulk]
  str b := by simp [Rows.uptoBulk]
  slice e s := by simp only [Rows.uptoBulk]; omega
  agg l := by simp [Rows.uptoBulk]
  nil := by simp [Rows.uptoBulkAll]
  cons d r := by simp [Rows.uptoBulkAll]

theorem textPrints_reads (os : Os) {H : Type} (enc : TypeId × Value → H) : ∃ places, DataW.whole enc Tryd.prog ((laidWorldX os).forCall (fun _ _ => 0) ⟨#[], #[.agg #[.int .i64 0, .slice none 0 0, .slice none 0 0, .slice none 0 0, .slice none 0 0, .int .i64 0, .slice none 0 0, .slice none 0 0]], []⟩).memory Tryd.f5.params.toList Rows.textPrintsSpec.vars false #[.agg #[.int .i64 0, .slice none 0 0, .slice none 0 0, .slice none 0 0, .slice none 0 0, .int .i64 0, .slice none 0 0, .slice none 0 0]].toList 8 = some ([.agg [.agg [.lit (.int .i64 0), .nil, .nil, .nil, .nil, .lit (.int .i64 0)], .nil, .nil]], [], places) :=
  ⟨[], by kernel_rfl⟩

set_option maxRecDepth 100000 in
theorem textPrints_lifted (os : Os) (started : os.Started) (H : Type) (enc : TypeId × Value → H) (F : Stop.Interp) :
    ReturnsInHanded {} Tryd.checked os 5 .any ((Rows.OpenSpec.upto Rows.textPrintsSpec).preRow enc Tryd.prog Tryd.f5 [] false laidX) (((Rows.OpenSpec.upto Rows.textPrintsSpec).at F).post enc Tryd.prog Tryd.f5 false true false false) := by
  obtain ⟨places, hx⟩ := textPrints_reads os enc
  refine returnsInHanded_of_row (C := Tryd.checked) (s := Rows.OpenSpec.upto Rows.textPrintsSpec) own started (by kernel_rfl) Tryd.func5
    (witness_row_atRef (enc := enc) (C := Tryd.checked) false (laidWorldX os) #[.agg #[.int .i64 0, .slice none 0 0, .slice none 0 0, .slice none 0 0, .slice none 0 0, .int .i64 0, .slice none 0 0, .slice none 0 0]] rfl (by kernel_rfl) (by kernel_rfl) (by kernel_rfl)
      (OpenSpec.preRow_of_cond 8 hx (by kernel_rfl) (fun k hk => by cases hk; kernel_rfl) (by kernel_rfl) (laid_metX os _))) ?_
  intro W base args ds gs before hval hW _ hcond hsz hL _ _
  obtain ⟨σ, hap, gl⟩ := globX hL
  have hW0 := hW
  obtain ⟨p, q, hA, hV, _⟩ := hW0
  have hA' : DataW.TrodAll enc Tryd.prog W 0 (fun _ => true) true Tryd.f5.params.toList args.toList ds p := hA
  have hgs : gs = [] := by
    cases gs with
    | nil => rfl
    | cons g r => exact absurd hV (by intro h; cases h)
  subst hgs
  have hN : Rows.uptoBulkAll ds ≤ 1048576 := by
    have := hcond _ rfl
    rw [List.append_nil] at this
    exact of_decide_eq_true this
  rw [Tryd.params5] at hA'
  obtain ⟨v0, d0, _, hd, _⟩ := trodAll_one hA'
  refine law_contractU isBulk (N := 1048576) (C := cfg GX) (s := Rows.textPrintsSpec) (n := 7) (tb := 4) (goodX hap) kids full (by rw [Tryd.params5]; intro t ht; simp at ht; subst ht; exact of_decide_eq_true (by kernel_rfl)) (by rw [Tryd.params5]; intro t ht; simp at ht; subst ht; exact inScr) rfl (by rw [hd]; rfl) (by kernel_rfl) Tryd.underlying4 hval hW hsz gl hN ?_
  intro xs hxs _ hbk
  rw [Tryd.params5] at hxs
  obtain ⟨x, rfl, l, hl, rfl⟩ := shs1 (P := Tryd.prog) (n := 7) hxs
  obtain ⟨s, ps, hs, ws, ks, is, os, rows, h, hfit, hnum⟩ := sh_script (n := 0) hl
  rw [argVScr] at hbk ⊢
  have hb : scB s ≤ 1048576 := by
    rw [← bulk_sc h]
    simpa [bulkL] using hbk
  obtain ⟨v, H', e, rfl⟩ := prints_run h hfit (scN_of hnum hb)
  exact ⟨_, H', e⟩

theorem textPrints_in (os : Os) (started : os.Started) (H : Type) (enc : TypeId × Value → H) (F : Stop.Interp) :
    ReturnsInHanded Rows.textPrintsUptoRow.assume Tryd.pinned.checked os 5 .any (Rows.textPrintsUptoRow.pre enc Tryd.pinned.checked.prog Tryd.f5 (Rows.OpenSpec.upto Rows.textPrintsSpec)) (((Rows.OpenSpec.upto Rows.textPrintsSpec).at F).post enc Tryd.pinned.checked.prog Tryd.f5 Rows.textPrintsUptoRow.apart Rows.textPrintsUptoRow.fresh Rows.textPrintsUptoRow.handsOn Rows.textPrintsUptoRow.again) := by
  rw [OpenClaim.pre_eq_preRow]; exact textPrints_lifted os started H enc F
theorem textPrints_closed : joinedFacts Tryd.pinned.checked.prog 5 Tryd.f5 (Rows.OpenSpec.upto Rows.textPrintsSpec).bare Rows.textPrintsUptoRow = true := by kernel_rfl
theorem textPrints_named : Tryd.pinned.checked.prog.funcNamed Rows.textPrintsUptoRow.func = some 5 := by kernel_rfl
theorem textPrints_inst : Tryd.f5.isInstance Tryd.pinned.checked.prog Rows.textPrintsUptoRow.origin Rows.textPrintsUptoRow.targs := of_decide_eq_true (by kernel_rfl)
theorem textPrints_wrap : Tryd.f5.isWrapper Tryd.pinned.checked.prog Rows.textPrintsUptoRow.wrapper Rows.textPrintsUptoRow.mainSum := by unfold Func.isWrapper; rw [if_neg (of_decide_eq_false (by kernel_rfl))]; exact ⟨rfl, rfl⟩
theorem textPrints_holds : Rows.TextPrintsUptoSaid :=
  OpenClaim.holds_of_cond 5 Tryd.f5 rfl rfl rfl rfl rfl rfl rfl ⟨rfl, rfl, rfl, rfl, rfl⟩ rfl rfl rfl rfl rfl textPrints_named Tryd.func5 textPrints_closed textPrints_inst textPrints_wrap (fun os started H enc _ F => textPrints_in os started H enc F)

theorem textPrints_card : Rows.TextPrintsUptoCardSaid :=
  Claim7.holds_tied_plain_at .later [] [.data, .data, .data, .handle, .sentinel, .sentinel, .sentinel, .sentinel, .sentinel, .sentinel, .sentinel, .sentinel, .sentinel, .sentinel, .sentinel, .sentinel, .sentinel, .sentinel, .sentinel, .sentinel, .sentinel, .sentinel, .sentinel, .sentinel] true (true, "8605f0e35148b5575554071c93f1002a9aa4838c7d3c8e02554425a037c36d3d") true
    textPrints_holds (fun _ h => by cases h) (by kernel_rfl) (fun _ h => by cases h) textPrintsUpto_row_tie rfl ⟨rfl, rfl⟩ (by kernel_rfl) rfl
    (fun f fn hf hfn => by
      obtain rfl : f = 5 := Option.some.inj ((show Tryd.prog.funcNamed "ferry/ferrylaw25.TextPrints" = some 5 by kernel_rfl).symm.trans hf) |>.symm
      obtain rfl : fn = Tryd.f5 := (Option.some.inj (Tryd.func5.symm.trans hfn)).symm
      exact ⟨by kernel_rfl, fun j t ht => by
        rw [Tryd.params5] at ht
        have hm : t ∈ [66] := by
          exact Array.mem_toList_iff.2 (Array.mem_of_getElem? ht)
        simp at hm
        subst hm; exact (show Tryd.prog.wantsStandIn 66 = false by kernel_rfl)⟩)
    (by kernel_rfl)
#print axioms textPrints_card
end Go.Proofs.YtoogammidjhfgaaDoor
