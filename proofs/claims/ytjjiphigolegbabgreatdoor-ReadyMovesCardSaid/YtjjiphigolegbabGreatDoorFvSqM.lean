/-
  The law ReadyMoves, run to its end. By an AI agent; no person has read it.
-/
import Derived.Test.YtjjiphigolegbabGreatDoorFvSqL
import Derived.Test.YtjjiphigolegbabGreatDoorFvTr14
set_option linter.unusedVariables false
set_option linter.unusedSimpArgs false
set_option linter.unusedSectionVars false
/-! The law ReadyMoves, run to its end. -/
namespace Go.Fv.Tr
open Go Go.Fv Go.Fv.Pl Go.Proofs
set_option linter.unusedSimpArgs false
set_option linter.unusedVariables false
variable {G : Nat → Option (List V)}

theorem num_arg : Num (errV 0) 12 := .inr (.inr (.inr (.inl ⟨rfl, rfl⟩)))
theorem same_ans (hA : AErrs G) (n : Nat) {t u : Tab} {ok : Prop} {r r' : V} (h1 : Ans t ok u r) (h2 : RAns t ok u r') :
    ∃ a b c e a' b' c' k, r = .tuple [.agg [a, b, c], e] ∧ r' = .tuple [.agg [a', b', c'], .int .i64 k] ∧ callV (cfg G) (sem (cfg G) (n + 4)) 14 [.agg [a, b, c], e, .agg [a', b', c'], .int .i64 k] = M.ret (.bool true) := by
  rcases h1 with ⟨hok, ho, a, b, c, rfl, ht⟩ | ⟨hok, rfl⟩ | ⟨hok, ho, rfl⟩
  · rcases h2 with ⟨_, _, a', b', c', rfl, ht'⟩ | ⟨g, _⟩ | ⟨_, g, _⟩
    · exact ⟨a, b, c, .nili, a', b', c', 0, rfl, rfl, same_spec hA n ht ht' num_ok 0 rfl rfl⟩
    · exact absurd hok g
    · exact absurd ho g
  · rcases h2 with ⟨g, _⟩ | ⟨_, rfl⟩ | ⟨g, _⟩
    · exact absurd g hok
    · exact ⟨.nils, .nils, .nils, errV 1, .nils, .nils, .nils, 9, rfl, rfl, same_spec hA n no_tab no_tab num_state 9 rfl rfl⟩
    · exact absurd g hok
  · rcases h2 with ⟨_, g, _⟩ | ⟨g, _⟩ | ⟨_, _, rfl⟩
    · exact absurd g ho
    · exact absurd hok g
    · exact ⟨.nils, .nils, .nils, errV 0, .nils, .nils, .nils, 12, rfl, rfl, same_spec hA n no_tab no_tab num_arg 12 rfl rfl⟩

set_option maxRecDepth 20000 in
set_option maxHeartbeats 2000000 in
theorem moves_run (hA : AErrs G) (n : Nat) {x y z : V} {t : Tab} (h : IsTab x y z t) (pr w o du pi st nw r1 : Int) :
    ∃ v H', sem (cfg G) (n + 10) 3 [.agg [x, y, z, i64 pr, i64 w, i64 o, i64 du, i64 pi, i64 st, i64 nw, .int .u32 r1]] Heap.empty = some (v, H') ∧ v = .bool true := by
  show Run (sem (cfg G) (n + 10) 3 [.agg [x, y, z, i64 pr, i64 w, i64 o, i64 du, i64 pi, i64 st, i64 nw, .int .u32 r1]]) Heap.empty fun v _ => v = .bool true
  have hG := hA.errs
  rw [ferry_ferrylaw09_ReadyMoves_eq]
  simp only [ferry_ferrylaw09_ReadyMoves]
  obtain ⟨q1, e1, a1⟩ := ryield_spec (G := G) (n + 5) h pr
  obtain ⟨q2, e2, a2⟩ := rblock_spec (G := G) (n + 5) h pr w o du
  obtain ⟨q3, e3, a3⟩ := rwake_spec (G := G) (n + 5) h pr r1
  obtain ⟨q4, e4, a4⟩ := rhalt_spec (G := G) (n + 5) h pr st
  obtain ⟨q5, e5, a5⟩ := rstart_spec (G := G) (n + 5) h pr r1 pi
  obtain ⟨q6, e6, a6⟩ := rrank_spec (G := G) (n + 5) h pr pi
  obtain ⟨p1, f1, b1⟩ := yield_spec hG (n + 1) h pr
  obtain ⟨p2, f2, b2⟩ := block_spec hG (n + 1) h pr w o du
  obtain ⟨p3, f3, b3⟩ := wakeR_spec hG (n + 1) h pr r1
  obtain ⟨p4, f4, b4⟩ := halt_spec hG (n + 1) h pr st
  obtain ⟨p5, f5, b5⟩ := start_spec hG (n + 1) h pr r1 pi
  obtain ⟨p6, f6, b6⟩ := rank_spec hG (n + 1) h pr pi
  obtain ⟨_, _, _, _, _, _, _, _, rfl, rfl, s1⟩ := same_ans hA (n + 5) b1 a1
  obtain ⟨_, _, _, _, _, _, _, _, rfl, rfl, s2⟩ := same_ans hA (n + 5) b2 a2
  obtain ⟨_, _, _, _, _, _, _, _, rfl, rfl, s3⟩ := same_ans hA (n + 5) b3 a3
  obtain ⟨_, _, _, _, _, _, _, _, rfl, rfl, s4⟩ := same_ans hA (n + 5) b4 a4
  obtain ⟨_, _, _, _, _, _, _, _, rfl, rfl, s5⟩ := same_ans hA (n + 5) b5 a5
  obtain ⟨_, _, _, _, _, _, _, _, rfl, rfl, s6⟩ := same_ans hA (n + 5) b6 a6
  (repeat' (first | (simp (maxSteps := 5000000) only [wp, extractV, exists_eq_left', if_true, if_false, ite_true, ite_false, reduceIte, Nat.reduceAdd, Nat.reduceLT, Nat.reduceLeDiff, Nat.reduceEqDiff, awake_spec hG n, to_spec (n + 8) h, e1, e2, e3, e4, e5, e6, f1, f2, f3, f4, f5, f6, s1, s2, s3, s4, s5, s6]) | (with_reducible refine Run.gC ?_ ?_ <;> intro hb <;> try simp only [hb]) | (with_reducible refine Run.gG ?_ ?_ <;> intro hb <;> try simp only [hb]) | (with_reducible refine Run.gQ ?_ ?_ <;> intro hb <;> try simp only [hb])))
end Go.Fv.Tr
