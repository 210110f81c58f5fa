/-
  What the document's functions of the layer 9 answer: Equal, Best. By an AI agent; no person has read it.
-/
import Derived.Test.YtjjiphigolegbabGreatDoorFvW9
import Derived.Test.YtjjiphigolegbabGreatDoorFvSpN
set_option linter.unusedVariables false
set_option linter.unusedSimpArgs false
set_option linter.unusedSectionVars false
/-! What the document's functions of the layer 9 answer: Equal, Best. -/
namespace Go.Fv.Tr
open Go Go.Fv Go.Fv.Pl Go.Proofs
set_option linter.unusedSimpArgs false
set_option linter.unusedVariables false
variable {G : Nat → Option (List V)}

theorem eqCs_ints (k : IntKind) : ∀ (a b : List Int) (ks : List Sc) (vs us : List V), a.length = b.length → eqCs (List.replicate a.length .int ++ ks) (a.map (fun n => V.int k n) ++ vs) (b.map (fun n => V.int k n) ++ us) = (eqCs ks vs us).bind fun y => some (decide (a = b) && y)
  | [], [], ks, vs, us, _ => by
    simp only [List.length_nil, List.replicate_zero, List.map_nil, List.nil_append]
    cases eqCs ks vs us <;> simp
  | x :: a, y :: b, ks, vs, us, h => by
    have ih := eqCs_ints k a b ks vs us (by simpa using h)
    simp only [List.length_cons, List.replicate_succ, List.map_cons, List.cons_append, eqCs, eqC, if_true, Option.bind_some, ih]
    cases eqCs ks vs us with
    | none => rfl
    | some v =>
      simp only [Option.bind_some, Option.some.injEq, List.cons.injEq]
      by_cases hx : x = y <;> by_cases hab : a = b <;> simp [hx, hab]
theorem eq_pr {c : Bool} {p q : Pr} (hp : Wp p) (hq : Wp q) : eqV (.agg [.int, .int, .int, .int, .int, .int, .int, .int, .int, .int, .int, .int, .int, .int, .int, .int, .int, .int, .int, .int, .int]) c (.agg (prRow p)) (.agg (prRow q)) = some (decide (p = q)) := by
  have hpl : p.regs.length = 16 := hp
  have hql : q.regs.length = 16 := hq
  show eqCs _ (prRow p) (prRow q) = _
  have e : ([.int, .int, .int, .int, .int, .int, .int, .int, .int, .int, .int, .int, .int, .int, .int, .int, .int, .int, .int, .int, .int] : List Sc) = List.replicate p.regs.length .int ++ [.int, .int, .int, .int, .int] := by rw [hpl]; rfl
  rw [e]
  unfold prRow
  rw [eqCs_ints .u32 p.regs q.regs _ _ _ (by omega)]
  simp only [eqCs, eqC, if_true, Option.bind_some, Option.some.injEq]
  obtain ⟨a1, a2, a3, a4, a5, a6⟩ := p
  obtain ⟨b1, b2, b3, b4, b5, b6⟩ := q
  simp only [Pr.mk.injEq]
  by_cases h1 : a1 = b1 <;> by_cases h2 : a2 = b2 <;> by_cases h3 : a3 = b3 <;> by_cases h4 : a4 = b4 <;> by_cases h5 : a5 = b5 <;> by_cases h6 : a6 = b6 <;> simp [h1, h2, h3, h4, h5, h6]

theorem equal_spec (n : Nat) {x y z x' y' z' : V} {t u : Tab} (h : IsTab x y z t) (h' : IsTab x' y' z' u) : callV (cfg G) (sem (cfg G) (n + 2)) 36 [.agg [x, y, z], .agg [x', y', z']] = M.ret (.bool (decide (t = u))) := by
  refine callV_pure0 rfl (by simp [h.closed, h'.closed]) rfl ?_
  rw [ferry_ferryref09_Equal_eq]
  simp only [ferry_ferryref09_Equal]
  by_cases h1 : t.ps.length = u.ps.length
  case neg =>
    have e1 : ((t.ps.length : Int) == (u.ps.length : Int)) = false := by rw [beq_eq_false_iff_ne]; omega
    (repeat' (first | (simp only [wp, extractV, exists_eq_left', if_true, if_false, ite_true, ite_false, reduceIte, Nat.reduceAdd, Nat.reduceLT, Nat.reduceLeDiff, Nat.reduceEqDiff, h.p.len, h'.p.len, List.length_map, e1]) | (with_reducible refine Run.gC ?_ ?_ <;> intro hb <;> try simp only [hb]) | (with_reducible refine Run.gG ?_ ?_ <;> intro hb <;> try simp only [hb]) | (with_reducible refine Run.gQ ?_ ?_ <;> intro hb <;> try simp only [hb])))
    exact boolF fun g => h1 (by rw [g])
  have e1 : ((t.ps.length : Int) == (u.ps.length : Int)) = true := by simp [h1]
  by_cases h2 : t.ts.length = u.ts.length
  case neg =>
    have e2 : ((t.ts.length : Int) == (u.ts.length : Int)) = false := by rw [beq_eq_false_iff_ne]; omega
    (repeat' (first | (simp only [wp, extractV, exists_eq_left', if_true, if_false, ite_true, ite_false, reduceIte, Nat.reduceAdd, Nat.reduceLT, Nat.reduceLeDiff, Nat.reduceEqDiff, h.p.len, h'.p.len, h.s.len, h'.s.len, List.length_map, e1, e2]) | (with_reducible refine Run.gC ?_ ?_ <;> intro hb <;> try simp only [hb]) | (with_reducible refine Run.gG ?_ ?_ <;> intro hb <;> try simp only [hb]) | (with_reducible refine Run.gQ ?_ ?_ <;> intro hb <;> try simp only [hb])))
    exact boolF fun g => h2 (by rw [g])
  have e2 : ((t.ts.length : Int) == (u.ts.length : Int)) = true := by simp [h2]
  by_cases h3 : t.q = u.q
  case neg =>
    (repeat' (first | (simp only [wp, extractV, exists_eq_left', if_true, if_false, ite_true, ite_false, reduceIte, Nat.reduceAdd, Nat.reduceLT, Nat.reduceLeDiff, Nat.reduceEqDiff, h.p.len, h'.p.len, h.s.len, h'.s.len, List.length_map, e1, e2, equalInts_spec _ h.q h'.q h.big.2.1, decide_eq_false h3]) | (with_reducible refine Run.gC ?_ ?_ <;> intro hb <;> try simp only [hb]) | (with_reducible refine Run.gG ?_ ?_ <;> intro hb <;> try simp only [hb]) | (with_reducible refine Run.gQ ?_ ?_ <;> intro hb <;> try simp only [hb])))
    exact boolF fun g => h3 (by rw [g])
  (repeat' (first | (simp only [wp, extractV, exists_eq_left', if_true, if_false, ite_true, ite_false, reduceIte, Nat.reduceAdd, Nat.reduceLT, Nat.reduceLeDiff, Nat.reduceEqDiff, h.p.len, h'.p.len, h.s.len, h'.s.len, List.length_map, e1, e2, equalInts_spec _ h.q h'.q h.big.2.1, decide_eq_true h3]) | (with_reducible refine Run.gC ?_ ?_ <;> intro hb <;> try simp only [hb]) | (with_reducible refine Run.gG ?_ ?_ <;> intro hb <;> try simp only [hb]) | (with_reducible refine Run.gQ ?_ ?_ <;> intro hb <;> try simp only [hb])))
  refine Run.loop (N := t.ps.length) (fun i s H => s = [.bool false, .int .i64 (i : Nat)] ∧ H.floor = 0 ∧ H.blk 0 = some ⟨3, [[x, y, z]]⟩ ∧ H.blk 1 = some ⟨3, [[x', y', z']]⟩ ∧ t.ps.take i = u.ps.take i) ⟨rfl, rfl, rfl, rfl, by simp⟩ ?_
  rintro i s H hi ⟨rfl, hf, b0, b1, ht⟩
  by_cases hlt : i < t.ps.length
  · have hlu : i < u.ps.length := by omega
    have i1 := h.p.idx (k := .i64) (i := i) (by simpa using hlt)
    have i2 := h'.p.idx (k := .i64) (i := i) (by simpa using hlu)
    simp only [List.getElem_map] at i1 i2
    have w1 := h.wp _ (List.getElem_mem hlt)
    have w2 := h'.wp _ (List.getElem_mem hlu)
    simp only [ferry_ferryref09_Equal_l1]
    (repeat' (first | (simp only [wp, extractV, exists_eq_left', if_true, if_false, ite_true, ite_false, reduceIte, Nat.reduceAdd, Nat.reduceLT, Nat.reduceLeDiff, Nat.reduceEqDiff, b0, b1, h.p.len, List.length_map, ltT hlt, i1, i2, pr_len w1, pr_len w2, pr_take w1, pr_take w2, eq_pr w1 w2, addN hlt h.big.1]) | (with_reducible refine Run.gC ?_ ?_ <;> intro hb <;> try simp only [hb]) | (with_reducible refine Run.gG ?_ ?_ <;> intro hb <;> try simp only [hb]) | (with_reducible refine Run.gQ ?_ ?_ <;> intro hb <;> try simp only [hb])))
    · refine ⟨hlt, hf, ?_⟩
      rw [take_snoc hlt, take_snoc hlu, ht, of_decide_eq_true hb]
    · refine boolF fun g => ?_
      subst g
      simp at hb
  · simp only [ferry_ferryref09_Equal_l1]
    rw [take_all (by omega), take_all (by omega)] at ht
    (repeat' (first | (simp only [wp, extractV, exists_eq_left', if_true, if_false, ite_true, ite_false, reduceIte, Nat.reduceAdd, Nat.reduceLT, Nat.reduceLeDiff, Nat.reduceEqDiff, b0, h.p.len, List.length_map, ltF hlt]) | (with_reducible refine Run.gC ?_ ?_ <;> intro hb <;> try simp only [hb]) | (with_reducible refine Run.gG ?_ ?_ <;> intro hb <;> try simp only [hb]) | (with_reducible refine Run.gQ ?_ ?_ <;> intro hb <;> try simp only [hb])))
    refine Run.loop (N := t.ts.length) (fun i s H => s = [.bool false, .int .i64 (i : Nat)] ∧ H.floor = 0 ∧ H.blk 0 = some ⟨3, [[x, y, z]]⟩ ∧ H.blk 1 = some ⟨3, [[x', y', z']]⟩ ∧ t.ts.take i = u.ts.take i) ⟨rfl, hf, b0, b1, by simp⟩ ?_
    rintro j s H hj ⟨rfl, hf, b0, b1, ht2⟩
    by_cases hlj : j < t.ts.length
    · have hlu : j < u.ts.length := by omega
      have i1 := h.s.idx (k := .i64) (i := j) (by simpa using hlj)
      have i2 := h'.s.idx (k := .i64) (i := j) (by simpa using hlu)
      simp only [List.getElem_map] at i1 i2
      simp only [ferry_ferryref09_Equal_l2]
      (repeat' (first | (simp only [wp, extractV, exists_eq_left', if_true, if_false, ite_true, ite_false, reduceIte, Nat.reduceAdd, Nat.reduceLT, Nat.reduceLeDiff, Nat.reduceEqDiff, b0, b1, h.s.len, List.length_map, ltT hlj, i1, i2, tm_len, tm_take, eq_tm, addN hlj h.big.2.2]) | (with_reducible refine Run.gC ?_ ?_ <;> intro hb <;> try simp only [hb]) | (with_reducible refine Run.gG ?_ ?_ <;> intro hb <;> try simp only [hb]) | (with_reducible refine Run.gQ ?_ ?_ <;> intro hb <;> try simp only [hb])))
      · refine ⟨hlj, hf, ?_⟩
        rw [take_snoc hlj, take_snoc hlu, ht2, of_decide_eq_true hb]
      · refine boolF fun g => ?_
        subst g
        simp at hb
    · simp only [ferry_ferryref09_Equal_l2]
      rw [take_all (by omega), take_all (by omega)] at ht2
      (repeat' (first | (simp only [wp, extractV, exists_eq_left', if_true, if_false, ite_true, ite_false, reduceIte, Nat.reduceAdd, Nat.reduceLT, Nat.reduceLeDiff, Nat.reduceEqDiff, b0, h.s.len, List.length_map, ltF hlj]) | (with_reducible refine Run.gC ?_ ?_ <;> intro hb <;> try simp only [hb]) | (with_reducible refine Run.gG ?_ ?_ <;> intro hb <;> try simp only [hb]) | (with_reducible refine Run.gQ ?_ ?_ <;> intro hb <;> try simp only [hb])))
      refine boolT ?_
      obtain ⟨t1, t2, t3⟩ := t
      obtain ⟨u1, u2, u3⟩ := u
      simp only at ht ht2 h3
      rw [ht, ht2, h3]
end Go.Fv.Tr
