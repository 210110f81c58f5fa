/-
  The law ReadyWakes, run to its end. By an AI agent; no person has read it.
-/
import Derived.Test.YtjjiphigolegbabGreatDoorFvSqC
set_option linter.unusedVariables false
set_option linter.unusedSimpArgs false
set_option linter.unusedSectionVars false
/-! The law ReadyWakes, run to its end. -/
namespace Go.Fv.Tr
open Go Go.Fv Go.Fv.Pl Go.Proofs
set_option linter.unusedSimpArgs false
set_option linter.unusedVariables false
variable {G : Nat → Option (List V)}

def noT : Tab := ⟨[], [], []⟩
theorem no_tab : IsTab .nils .nils .nils noT := ⟨Sls.nils _, Sls.nils _, Sls.nils _, by simp [noT], by simp [noT]⟩
theorem AErrs.terrs (h : AErrs G) : TErrs G := ⟨h.at_ 1 rfl, h.at_ 0 rfl, h.at_ 6 rfl⟩

set_option maxRecDepth 20000 in
theorem same_spec (hA : AErrs G) (n : Nat) {a b c a' b' c' e : V} {u v : Tab} {k : Int} (h : IsTab a b c u) (h' : IsTab a' b' c' v) (he : Num e k) (m : Int) (hkm : k = m) (huv : u = v) :
    callV (cfg G) (sem (cfg G) (n + 4)) 14 [.agg [a, b, c], e, .agg [a', b', c'], .int .i64 m] = M.ret (.bool true) := by
  subst huv
  subst hkm
  refine callV_pure0 rfl (by simp [h.closed, h'.closed, he.closed, cI]) rfl ?_
  rw [ferry_ferrylaw09_same_eq]
  simp only [ferry_ferrylaw09_same]
  (repeat' (first | (simp only [wp, extractV, exists_eq_left', if_true, if_false, ite_true, ite_false, reduceIte, Nat.reduceAdd, Nat.reduceLT, Nat.reduceLeDiff, Nat.reduceEqDiff, plain_spec hA n he, from_spec (n + 2) h, equal_spec (n + 1) h h', decide_true]) | (with_reducible refine Run.gC ?_ ?_ <;> intro hb <;> try simp only [hb]) | (with_reducible refine Run.gG ?_ ?_ <;> intro hb <;> try simp only [hb]) | (with_reducible refine Run.gQ ?_ ?_ <;> intro hb <;> try simp only [hb])))

theorem num_ok : Num .nili 0 := .inl ⟨rfl, rfl⟩
theorem num_state : Num (errV 1) 9 := .inr (.inl ⟨rfl, rfl⟩)
theorem num_none : Num (errV 2) 17 := .inr (.inr (.inl ⟨rfl, rfl⟩))

theorem sls_thawV {x : V} {sz : Nat} {rows : List (List V)} (h : Sls x sz rows) (H : Heap) : thawV true H x = some x := by
  rcases h with rfl | ⟨_, rfl | rfl⟩ <;> simp [thawV, thaw, V.flat, V.closed]
theorem mapMV2 {ok : Bool} {H : Heap} {a b a' b' : V} (ha : thawV ok H a = some a') (hb : thawV ok H b = some b') : [a, b].mapM (thawV ok H) = some [a', b'] := by simp [ha, hb]
theorem lit_thaw {sz l n : Nat} {rows : List (List V)} {H : Heap} {ex : Bool} (hb : H.blk l = some ⟨sz, rows⟩) (hf : flatRows rows = true) (hn : rows.length = n) : thawV true H (.ref l sz 0 n n ex) = some (.imm sz rows) := by
  subst hn
  simp [thawV, thaw, hb, hf]
theorem closed2 {a b : V} (ha : a.closedV = true) (hb : b.closedV = true) : [a, b].all V.closedV = true := by simp [ha, hb]
theorem wt_some : wt someT.ps 3 1 = [2] := by decide
theorem dues_some : dues someT.ts 10 = [3] := by decide
theorem fire_some : (someT.fire 10).q = [1, 0, 3] := by decide
end Go.Fv.Tr
