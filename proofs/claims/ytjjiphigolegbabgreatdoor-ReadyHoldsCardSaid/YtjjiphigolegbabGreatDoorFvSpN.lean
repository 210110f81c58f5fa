/-
  What the functions of the layer 8 answer: Sort; the law's helpers. By an AI agent; no person has read it.
-/
import Derived.Test.YtjjiphigolegbabGreatDoorFvSpM
set_option linter.unusedVariables false
set_option linter.unusedSimpArgs false
set_option linter.unusedSectionVars false
/-! What the functions of the layer 8 answer: Sort; the law's helpers. -/
namespace Go.Fv.Tr
open Go Go.Fv Go.Fv.Pl Go.Proofs
set_option linter.unusedSimpArgs false
set_option linter.unusedVariables false
variable {G : Nat → Option (List V)}

theorem check8 (hG : TErrs G) (n : Nat) {x : V} {ts : List Tm} (hx : Sls x 2 (ts.map tmRow)) (hl : ts.length ≤ big) :
    callV (cfg G) (sem (cfg G) (n + 5)) 44 [x, .int .i64 8] = M.ret (orNil (TsOk 8 ts) 1) := by
  refine callV_pure0 rfl (by simp [hx.closedV, cI]) (by unfold orNil; split <;> rfl) ?_
  rw [ferry_timer_Check_eq]
  have e0 : decide ((8 : Int) < 0) = false := rfl
  have e1 : decide ((8 : Int) < 8) = false := rfl
  simp only [ferry_timer_Check]
  (repeat' (first | (simp only [wp, extractV, exists_eq_left', if_true, if_false, ite_true, ite_false, reduceIte, Nat.reduceAdd, Nat.reduceLT, Nat.reduceLeDiff, Nat.reduceEqDiff, e0, e1, good8 n hx hl, glob_at hG.state]) | (with_reducible refine Run.gC ?_ ?_ <;> intro hb <;> try simp only [hb]) | (with_reducible refine Run.gG ?_ ?_ <;> intro hb <;> try simp only [hb]) | (with_reducible refine Run.gQ ?_ ?_ <;> intro hb <;> try simp only [hb])))
  all_goals simp_all [orNil]

theorem eq_tm {c : Bool} (a b : Tm) : eqV (.agg [.int, .int]) c (.agg (tmRow a)) (.agg (tmRow b)) = some (decide (a = b)) := by
  obtain ⟨a1, a2⟩ := a
  obtain ⟨b1, b2⟩ := b
  simp only [eqV, tmRow, eqCs, eqC, if_true, Option.bind_some, Bool.and_true, Option.some.injEq]
  by_cases h1 : a1 = b1 <;> by_cases h2 : a2 = b2 <;> simp [h1, h2]

def allRight (ts : List Tm) : Prop := ∀ t ∈ ts, right 8 t
instance (ts : List Tm) : Decidable (allRight ts) := inferInstanceAs (Decidable (∀ t ∈ ts, right 8 t))
theorem nodup8 {ts : List Tm} (h : allRight ts) (hn : (ts.map Tm.proc).Nodup) : ts.length ≤ 8 := by
  have := nodup_lenI (n := 8) hn (fun x hx => by
    obtain ⟨t, ht, rfl⟩ := List.mem_map.1 hx
    exact ⟨(h t ht).1, (h t ht).2.1⟩)
  simpa using this

end Go.Fv.Tr
