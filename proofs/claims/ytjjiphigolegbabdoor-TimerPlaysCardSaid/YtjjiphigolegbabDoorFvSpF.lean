/-
  The law ReadyTurns, run to its end. By an AI agent; no person has read it.
-/
import Derived.Test.YtjjiphigolegbabDoorFvSpE
set_option linter.unusedVariables false
set_option linter.unusedSimpArgs false
set_option linter.unusedSectionVars false
/-! The law ReadyTurns, run to its end. -/
namespace Go.Fv.Tr
open Go Go.Fv Go.Fv.Pl Go.Proofs
set_option linter.unusedSimpArgs false
set_option linter.unusedVariables false
variable {G : Nat → Option (List V)}

theorem to_spec (n : Nat) {x y z : V} {t : Tab} (h : IsTab x y z t) : callV (cfg G) (sem (cfg G) (n + 1)) 33 [.agg [x, y, z]] = M.ret (.agg [x, y, z]) := by
  refine callV_pure0 rfl (by simp [h.closed]) h.closed ?_
  rw [ferry_ferrylaw09_to_eq]
  simp only [ferry_ferrylaw09_to]
  (repeat' (first | (simp only [wp, extractV, exists_eq_left', if_true, if_false, ite_true, ite_false, reduceIte, Nat.reduceAdd, Nat.reduceLT, Nat.reduceLeDiff, Nat.reduceEqDiff, buildV, fill, putRow, h.p.cells, h.q.cells, h.s.cells, tupV]) | (with_reducible refine Run.gC ?_ ?_ <;> intro hb <;> try simp only [hb]) | (with_reducible refine Run.gG ?_ ?_ <;> intro hb <;> try simp only [hb]) | (with_reducible refine Run.gQ ?_ ?_ <;> intro hb <;> try simp only [hb])))
theorem from_spec (n : Nat) {x y z : V} {t : Tab} (h : IsTab x y z t) : callV (cfg G) (sem (cfg G) (n + 1)) 49 [.agg [x, y, z]] = M.ret (.agg [x, y, z]) := by
  refine callV_pure0 rfl (by simp [h.closed]) h.closed ?_
  rw [ferry_ferrylaw09_from_eq]
  simp only [ferry_ferrylaw09_from]
  (repeat' (first | (simp only [wp, extractV, exists_eq_left', if_true, if_false, ite_true, ite_false, reduceIte, Nat.reduceAdd, Nat.reduceLT, Nat.reduceLeDiff, Nat.reduceEqDiff, buildV, fill, putRow, h.p.cells, h.q.cells, h.s.cells, tupV]) | (with_reducible refine Run.gC ?_ ?_ <;> intro hb <;> try simp only [hb]) | (with_reducible refine Run.gG ?_ ?_ <;> intro hb <;> try simp only [hb]) | (with_reducible refine Run.gQ ?_ ?_ <;> intro hb <;> try simp only [hb])))

def zeros : List Int := [0, 0, 0, 0, 0, 0, 0, 0, 0, 0, 0, 0, 0, 0, 0, 0]
def someT : Tab := { ps := [⟨zeros, 0, 1, 5, 0, 0⟩, ⟨zeros, 0, 1, 5, 0, 0⟩, ⟨zeros, 0, 2, 3, 3, 1⟩, ⟨zeros, 0, 2, 3, 1, 0⟩], q := [1, 0], ts := [⟨3, 10⟩] }
theorem some_tab : IsTab (.imm 21 (someT.ps.map prRow)) (.imm 1 (someT.q.map intRow)) (.imm 2 (someT.ts.map tmRow)) someT :=
  ⟨Sls.imm _ _, Sls.imm _ _, Sls.imm _ _, by intro p hp; simp [someT] at hp; rcases hp with rfl | rfl | rfl <;> rfl, by decide⟩
theorem some_ok : TabOk someT := by
  rw [TabOk_iff]; decide
theorem some_spec (n : Nat) : callV (cfg G) (sem (cfg G) (n + 1)) 34 [] = M.ret (.agg [.imm 21 (someT.ps.map prRow), .imm 1 (someT.q.map intRow), .imm 2 (someT.ts.map tmRow)]) := by
  refine callV_pure rfl rfl ?_
  rw [ferry_ferrylaw09_some_eq]
  exact ⟨_, _, rfl, rfl⟩

theorem equalInts_spec (n : Nat) {x y : V} {a b : List Int} (hx : Sls x 1 (a.map intRow)) (hy : Sls y 1 (b.map intRow)) (hl : a.length ≤ big) : callV (cfg G) (sem (cfg G) (n + 1)) 36 [x, y] = M.ret (.bool (decide (a = b))) := by
  refine callV_pure0 rfl (by simp [hx.closedV, hy.closedV]) rfl ?_
  rw [ferry_ferryref09_EqualInts_eq]
  by_cases hab : a.length = b.length
  · have e0 : ((a.length : Int) == (b.length : Int)) = true := by simp [hab]
    simp only [ferry_ferryref09_EqualInts]
    (repeat' (first | (simp only [wp, extractV, exists_eq_left', if_true, if_false, ite_true, ite_false, reduceIte, Nat.reduceAdd, Nat.reduceLT, Nat.reduceLeDiff, Nat.reduceEqDiff, hx.len, hy.len, List.length_map, e0]) | (with_reducible refine Run.gC ?_ ?_ <;> intro hb <;> try simp only [hb]) | (with_reducible refine Run.gG ?_ ?_ <;> intro hb <;> try simp only [hb]) | (with_reducible refine Run.gQ ?_ ?_ <;> intro hb <;> try simp only [hb])))
    refine Run.loop (N := a.length) (fun i s H => s = [.bool false, .int .i64 (i : Nat)] ∧ a.take i = b.take i) ⟨rfl, by simp⟩ ?_
    rintro i s H hi ⟨rfl, ht⟩
    by_cases hlt : i < a.length
    · have h2 := hx.idx (k := .i64) (i := i) (by simpa using hlt)
      have h3 := hy.idx (k := .i64) (i := i) (by simp; omega)
      simp only [List.getElem_map] at h2 h3
      simp only [ferry_ferryref09_EqualInts_l1]
      (repeat' (first | (simp only [wp, extractV, exists_eq_left', if_true, if_false, ite_true, ite_false, reduceIte, Nat.reduceAdd, Nat.reduceLT, Nat.reduceLeDiff, Nat.reduceEqDiff, hx.len, List.length_map, ltT hlt, addN hlt hl, h2, h3, ir_at]) | (with_reducible refine Run.gC ?_ ?_ <;> intro hb <;> try simp only [hb]) | (with_reducible refine Run.gG ?_ ?_ <;> intro hb <;> try simp only [hb]) | (with_reducible refine Run.gQ ?_ ?_ <;> intro hb <;> try simp only [hb])))
      · have hb' : a[i] = b[i] := by simpa using hb
        refine ⟨hlt, ?_⟩
        rw [take_snoc hlt, take_snoc (by omega), ht, hb']
      · refine boolF fun g => ?_
        subst g
        simp at hb
    · simp only [ferry_ferryref09_EqualInts_l1]
      (repeat' (first | (simp only [wp, extractV, exists_eq_left', if_true, if_false, ite_true, ite_false, reduceIte, Nat.reduceAdd, Nat.reduceLT, Nat.reduceLeDiff, Nat.reduceEqDiff, hx.len, List.length_map, ltF hlt]) | (with_reducible refine Run.gC ?_ ?_ <;> intro hb <;> try simp only [hb]) | (with_reducible refine Run.gG ?_ ?_ <;> intro hb <;> try simp only [hb]) | (with_reducible refine Run.gQ ?_ ?_ <;> intro hb <;> try simp only [hb])))
      rw [take_all (by omega), take_all (by omega)] at ht
      exact boolT ht
  · have e0 : ((a.length : Int) == (b.length : Int)) = false := by rw [beq_eq_false_iff_ne]; omega
    simp only [ferry_ferryref09_EqualInts]
    (repeat' (first | (simp only [wp, extractV, exists_eq_left', if_true, if_false, ite_true, ite_false, reduceIte, Nat.reduceAdd, Nat.reduceLT, Nat.reduceLeDiff, Nat.reduceEqDiff, hx.len, hy.len, List.length_map, e0]) | (with_reducible refine Run.gC ?_ ?_ <;> intro hb <;> try simp only [hb]) | (with_reducible refine Run.gG ?_ ?_ <;> intro hb <;> try simp only [hb]) | (with_reducible refine Run.gQ ?_ ?_ <;> intro hb <;> try simp only [hb])))
    exact boolF fun g => hab (by rw [g])

theorem pick_some : pickV' someT = .tuple [.int .i64 1, .nili] := by
  rw [pickV', if_pos some_ok]
  rfl
theorem pick_some2 : pickV' (someT.yield 1) = .tuple [.int .i64 0, .nili] := by
  rw [pickV', if_pos (some_ok.yield (by decide))]
  rfl
theorem in_some : inOk someT 1 [1] := ⟨⟨zeros, 0, 1, 5, 0, 0⟩, by decide, by decide⟩
theorem awake_spec (hG : Errs G) (n : Nat) : callV (cfg G) (sem (cfg G) (n + 9)) 6 [] = M.ret (.bool true) := by
  refine callV_pure0 rfl rfl rfl ?_
  rw [ferry_ferrylaw09_awake_eq]
  obtain ⟨r, hr, ha⟩ := yield_spec hG n some_tab 1
  rcases ha with ⟨_, _, a, b, c, rfl, hu⟩ | ⟨h, _⟩ | ⟨_, h, _⟩
  · simp only [ferry_ferrylaw09_awake]
    (repeat' (first | (simp only [wp, extractV, exists_eq_left', if_true, if_false, ite_true, ite_false, reduceIte, Nat.reduceAdd, Nat.reduceLT, Nat.reduceLeDiff, Nat.reduceEqDiff, some_spec, to_spec _ some_tab, pick_spec hG _ some_tab, pick_some, hr, beq_self_eq_true, Run.slice, fillRows, List.replicate_succ, List.replicate_zero, List.set_cons_succ]) | (with_reducible refine Run.gC ?_ ?_ <;> intro hb <;> try simp only [hb]) | (with_reducible refine Run.gG ?_ ?_ <;> intro hb <;> try simp only [hb]) | (with_reducible refine Run.gQ ?_ ?_ <;> intro hb <;> try simp only [hb])))
    rw [Run.callRef rfl (bs := [b, .imm 1 [[.int .i64 0], [.int .i64 1]]]) ?_ (by simp [hu.q.closedV]; rfl) (equalInts_spec (b := [0, 1]) _ hu.q (Sls.imm _ _) hu.big.2.1) rfl]
    · have e : decide ((someT.yield 1).q = [0, 1]) = true := by decide
      (repeat' (first | (simp only [wp, extractV, exists_eq_left', if_true, if_false, ite_true, ite_false, reduceIte, Nat.reduceAdd, Nat.reduceLT, Nat.reduceLeDiff, Nat.reduceEqDiff, e, pick_spec hG _ hu, pick_some2, beq_self_eq_true]) | (with_reducible refine Run.gC ?_ ?_ <;> intro hb <;> try simp only [hb]) | (with_reducible refine Run.gG ?_ ?_ <;> intro hb <;> try simp only [hb]) | (with_reducible refine Run.gQ ?_ ?_ <;> intro hb <;> try simp only [hb])))
    · rw [List.mapM_cons, thawV_closed hu.q.closedV]
      rfl
  · exact absurd some_ok h
  · exact absurd in_some h
end Go.Fv.Tr
