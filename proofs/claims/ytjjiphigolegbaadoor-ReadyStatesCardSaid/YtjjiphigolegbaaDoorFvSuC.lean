/-
  Tables compared. By an AI agent; no person has read it.
-/
import Derived.Test.YtjjiphigolegbaaDoorFvSuB
set_option linter.unusedVariables false
set_option linter.unusedSimpArgs false
set_option linter.unusedSectionVars false
/-! Tables compared. -/
namespace Go.Fv.Tr
open Go Go.Fv Go.Fv.Pl Go.Proofs
set_option linter.unusedSimpArgs false
set_option linter.unusedVariables false
variable {G : Nat → Option (List V)}

theorem equalInts_run (n : Nat) {x y : V} {a b : List Int} (hx : Sls x 1 (a.map intRow)) (hy : Sls y 1 (b.map intRow)) (hl : a.length ≤ big) : Run (sem (cfg G) (n + 1) 27 [x, y]) Heap.empty fun v _ => v = .bool (decide (a = b)) := by
  rw [ferry_ferryref09_EqualInts_eq]
  by_cases hab : a.length = b.length
  · have e0 : ((a.length : Int) == (b.length : Int)) = true := by simp [hab]
    simp only [ferry_ferryref09_EqualInts]
    (repeat' (first | (simp only [wp, extractV, exists_eq_left', if_true, if_false, ite_true, ite_false, reduceIte, Nat.reduceAdd, Nat.reduceLT, Nat.reduceLeDiff, Nat.reduceEqDiff, hx.len, hy.len, List.length_map, e0]) | (with_reducible refine Run.gC ?_ ?_ <;> intro hb <;> try simp only [hb]) | (with_reducible refine Run.gG ?_ ?_ <;> intro hb <;> try simp only [hb]) | (with_reducible refine Run.gQ ?_ ?_ <;> intro hb <;> try simp only [hb])))
    refine Run.loop (N := a.length) (fun i s H => s = [.bool false, .int .i64 (i : Nat)] ∧ a.take i = b.take i) ⟨rfl, by simp⟩ ?_
    rintro i s H hi ⟨rfl, ht⟩
    by_cases hlt : i < a.length
    · have h2 := hx.idx (k := .i64) (i := i) (by simpa using hlt)
      have h3 := hy.idx (k := .i64) (i := i) (by simp; omega)
      simp only [List.getElem_map] at h2 h3
      simp only [ferry_ferryref09_EqualInts_l1]
      (repeat' (first | (simp only [wp, extractV, exists_eq_left', if_true, if_false, ite_true, ite_false, reduceIte, Nat.reduceAdd, Nat.reduceLT, Nat.reduceLeDiff, Nat.reduceEqDiff, hx.len, List.length_map, ltT hlt, addN hlt hl, h2, h3, ir_at]) | (with_reducible refine Run.gC ?_ ?_ <;> intro hb <;> try simp only [hb]) | (with_reducible refine Run.gG ?_ ?_ <;> intro hb <;> try simp only [hb]) | (with_reducible refine Run.gQ ?_ ?_ <;> intro hb <;> try simp only [hb])))
      · have hb' : a[i] = b[i] := by simpa using hb
        refine ⟨hlt, ?_⟩
        rw [take_snoc hlt, take_snoc (by omega), ht, hb']
      · refine boolF fun g => ?_
        subst g
        simp at hb
    · simp only [ferry_ferryref09_EqualInts_l1]
      (repeat' (first | (simp only [wp, extractV, exists_eq_left', if_true, if_false, ite_true, ite_false, reduceIte, Nat.reduceAdd, Nat.reduceLT, Nat.reduceLeDiff, Nat.reduceEqDiff, hx.len, List.length_map, ltF hlt]) | (with_reducible refine Run.gC ?_ ?_ <;> intro hb <;> try simp only [hb]) | (with_reducible refine Run.gG ?_ ?_ <;> intro hb <;> try simp only [hb]) | (with_reducible refine Run.gQ ?_ ?_ <;> intro hb <;> try simp only [hb])))
      rw [take_all (by omega), take_all (by omega)] at ht
      exact boolT ht
  · have e0 : ((a.length : Int) == (b.length : Int)) = false := by rw [beq_eq_false_iff_ne]; omega
    simp only [ferry_ferryref09_EqualInts]
    (repeat' (first | (simp only [wp, extractV, exists_eq_left', if_true, if_false, ite_true, ite_false, reduceIte, Nat.reduceAdd, Nat.reduceLT, Nat.reduceLeDiff, Nat.reduceEqDiff, hx.len, hy.len, List.length_map, e0]) | (with_reducible refine Run.gC ?_ ?_ <;> intro hb <;> try simp only [hb]) | (with_reducible refine Run.gG ?_ ?_ <;> intro hb <;> try simp only [hb]) | (with_reducible refine Run.gQ ?_ ?_ <;> intro hb <;> try simp only [hb])))
    exact boolF fun g => hab (by rw [g])

theorem equalInts_spec (n : Nat) {x y : V} {a b : List Int} (hx : Sls x 1 (a.map intRow)) (hy : Sls y 1 (b.map intRow)) (hl : a.length ≤ big) : callV (cfg G) (sem (cfg G) (n + 1)) 27 [x, y] = M.ret (.bool (decide (a = b))) :=
  callV_pure0 rfl (by simp [hx.closedV, hy.closedV]) rfl (equalInts_run n hx hy hl)
theorem eq_tm {c : Bool} (a b : Tm) : eqV (.agg [.int, .int]) c (.agg (tmRow a)) (.agg (tmRow b)) = some (decide (a = b)) := by
  obtain ⟨a1, a2⟩ := a
  obtain ⟨b1, b2⟩ := b
  simp only [eqV, tmRow, eqCs, eqC, if_true, Option.bind_some, Bool.and_true, Option.some.injEq]
  by_cases h1 : a1 = b1 <;> by_cases h2 : a2 = b2 <;> simp [h1, h2]

theorem eqCs_ints (k : IntKind) : ∀ (a b : List Int) (ks : List Sc) (vs us : List V), a.length = b.length → eqCs (List.replicate a.length .int ++ ks) (a.map (fun n => V.int k n) ++ vs) (b.map (fun n => V.int k n) ++ us) = (eqCs ks vs us).bind fun y => some (decide (a = b) && y)
  | [], [], ks, vs, us, _ => by
    simp only [List.length_nil, List.replicate_zero, List.map_nil, List.nil_append]
    cases eqCs ks vs us <;> simp
  | x :: a, y :: b, ks, vs, us, h => by
    have ih := eqCs_ints k a b ks vs us (by simpa using h)
    simp only [List.length_cons, List.replicate_succ, List.map_cons, List.cons_append, eqCs, eqC, if_true, Option.bind_some, ih]
    cases eqCs ks vs us with
    | none => rfl
    | some v =>
      simp only [Option.bind_some, Option.some.injEq, List.cons.injEq]
      by_cases hx : x = y <;> by_cases hab : a = b <;> simp [hx, hab]
theorem eq_pr {c : Bool} {p q : Pr} (hp : Wp p) (hq : Wp q) : eqV (.agg [.int, .int, .int, .int, .int, .int, .int, .int, .int, .int, .int, .int, .int, .int, .int, .int, .int, .int, .int, .int, .int]) c (.agg (prRow p)) (.agg (prRow q)) = some (decide (p = q)) := by
  have hpl : p.regs.length = 16 := hp
  have hql : q.regs.length = 16 := hq
  show eqCs _ (prRow p) (prRow q) = _
  have e : ([.int, .int, .int, .int, .int, .int, .int, .int, .int, .int, .int, .int, .int, .int, .int, .int, .int, .int, .int, .int, .int] : List Sc) = List.replicate p.regs.length .int ++ [.int, .int, .int, .int, .int] := by rw [hpl]; rfl
  rw [e]
  unfold prRow
  rw [eqCs_ints .u32 p.regs q.regs _ _ _ (by omega)]
  simp only [eqCs, eqC, if_true, Option.bind_some, Option.some.injEq]
  obtain ⟨a1, a2, a3, a4, a5, a6⟩ := p
  obtain ⟨b1, b2, b3, b4, b5, b6⟩ := q
  simp only [Pr.mk.injEq]
  by_cases h1 : a1 = b1 <;> by_cases h2 : a2 = b2 <;> by_cases h3 : a3 = b3 <;> by_cases h4 : a4 = b4 <;> by_cases h5 : a5 = b5 <;> by_cases h6 : a6 = b6 <;> simp [h1, h2, h3, h4, h5, h6]

theorem equal_closed (n : Nat) {x y z x' y' z' : V} {t u : Tab} (h : IsTab x y z t) (h' : IsTab x' y' z' u) : Run (sem (cfg G) (n + 2) 25 [.agg [x, y, z], .agg [x', y', z']]) Heap.empty fun v _ => v = .bool (decide (t = u)) := by
  rw [ferry_ferryref09_Equal_eq]
  simp only [ferry_ferryref09_Equal]
  by_cases h1 : t.ps.length = u.ps.length
  case neg =>
    have e1 : ((t.ps.length : Int) == (u.ps.length : Int)) = false := by rw [beq_eq_false_iff_ne]; omega
    (repeat' (first | (simp only [wp, extractV, exists_eq_left', if_true, if_false, ite_true, ite_false, reduceIte, Nat.reduceAdd, Nat.reduceLT, Nat.reduceLeDiff, Nat.reduceEqDiff, h.p.len, h'.p.len, List.length_map, e1]) | (with_reducible refine Run.gC ?_ ?_ <;> intro hb <;> try simp only [hb]) | (with_reducible refine Run.gG ?_ ?_ <;> intro hb <;> try simp only [hb]) | (with_reducible refine Run.gQ ?_ ?_ <;> intro hb <;> try simp only [hb])))
    exact boolF fun g => h1 (by rw [g])
  have e1 : ((t.ps.length : Int) == (u.ps.length : Int)) = true := by simp [h1]
  by_cases h2 : t.ts.length = u.ts.length
  case neg =>
    have e2 : ((t.ts.length : Int) == (u.ts.length : Int)) = false := by rw [beq_eq_false_iff_ne]; omega
    (repeat' (first | (simp only [wp, extractV, exists_eq_left', if_true, if_false, ite_true, ite_false, reduceIte, Nat.reduceAdd, Nat.reduceLT, Nat.reduceLeDiff, Nat.reduceEqDiff, h.p.len, h'.p.len, h.s.len, h'.s.len, List.length_map, e1, e2]) | (with_reducible refine Run.gC ?_ ?_ <;> intro hb <;> try simp only [hb]) | (with_reducible refine Run.gG ?_ ?_ <;> intro hb <;> try simp only [hb]) | (with_reducible refine Run.gQ ?_ ?_ <;> intro hb <;> try simp only [hb])))
    exact boolF fun g => h2 (by rw [g])
  have e2 : ((t.ts.length : Int) == (u.ts.length : Int)) = true := by simp [h2]
  by_cases h3 : t.q = u.q
  case neg =>
    (repeat' (first | (simp only [wp, extractV, exists_eq_left', if_true, if_false, ite_true, ite_false, reduceIte, Nat.reduceAdd, Nat.reduceLT, Nat.reduceLeDiff, Nat.reduceEqDiff, h.p.len, h'.p.len, h.s.len, h'.s.len, List.length_map, e1, e2, equalInts_spec _ h.q h'.q h.big.2.1, decide_eq_false h3]) | (with_reducible refine Run.gC ?_ ?_ <;> intro hb <;> try simp only [hb]) | (with_reducible refine Run.gG ?_ ?_ <;> intro hb <;> try simp only [hb]) | (with_reducible refine Run.gQ ?_ ?_ <;> intro hb <;> try simp only [hb])))
    exact boolF fun g => h3 (by rw [g])
  (repeat' (first | (simp only [wp, extractV, exists_eq_left', if_true, if_false, ite_true, ite_false, reduceIte, Nat.reduceAdd, Nat.reduceLT, Nat.reduceLeDiff, Nat.reduceEqDiff, h.p.len, h'.p.len, h.s.len, h'.s.len, List.length_map, e1, e2, equalInts_spec _ h.q h'.q h.big.2.1, decide_eq_true h3]) | (with_reducible refine Run.gC ?_ ?_ <;> intro hb <;> try simp only [hb]) | (with_reducible refine Run.gG ?_ ?_ <;> intro hb <;> try simp only [hb]) | (with_reducible refine Run.gQ ?_ ?_ <;> intro hb <;> try simp only [hb])))
  refine Run.loop (N := t.ps.length) (fun i s H => s = [.bool false, .int .i64 (i : Nat)] ∧ H.floor = 0 ∧ H.blk 0 = some ⟨3, [[x, y, z]]⟩ ∧ H.blk 1 = some ⟨3, [[x', y', z']]⟩ ∧ t.ps.take i = u.ps.take i) ⟨rfl, rfl, rfl, rfl, by simp⟩ ?_
  rintro i s H hi ⟨rfl, hf, b0, b1, ht⟩
  by_cases hlt : i < t.ps.length
  · have hlu : i < u.ps.length := by omega
    have i1 := h.p.idx (k := .i64) (i := i) (by simpa using hlt)
    have i2 := h'.p.idx (k := .i64) (i := i) (by simpa using hlu)
    simp only [List.getElem_map] at i1 i2
    have w1 := h.wp _ (List.getElem_mem hlt)
    have w2 := h'.wp _ (List.getElem_mem hlu)
    simp only [ferry_ferryref09_Equal_l1]
    (repeat' (first | (simp only [wp, extractV, exists_eq_left', if_true, if_false, ite_true, ite_false, reduceIte, Nat.reduceAdd, Nat.reduceLT, Nat.reduceLeDiff, Nat.reduceEqDiff, b0, b1, h.p.len, List.length_map, ltT hlt, i1, i2, pr_len w1, pr_len w2, pr_take w1, pr_take w2, eq_pr w1 w2, addN hlt h.big.1]) | (with_reducible refine Run.gC ?_ ?_ <;> intro hb <;> try simp only [hb]) | (with_reducible refine Run.gG ?_ ?_ <;> intro hb <;> try simp only [hb]) | (with_reducible refine Run.gQ ?_ ?_ <;> intro hb <;> try simp only [hb])))
    · refine ⟨hlt, hf, ?_⟩
      rw [take_snoc hlt, take_snoc hlu, ht, of_decide_eq_true hb]
    · refine boolF fun g => ?_
      subst g
      simp at hb
  · simp only [ferry_ferryref09_Equal_l1]
    rw [take_all (by omega), take_all (by omega)] at ht
    (repeat' (first | (simp only [wp, extractV, exists_eq_left', if_true, if_false, ite_true, ite_false, reduceIte, Nat.reduceAdd, Nat.reduceLT, Nat.reduceLeDiff, Nat.reduceEqDiff, b0, h.p.len, List.length_map, ltF hlt]) | (with_reducible refine Run.gC ?_ ?_ <;> intro hb <;> try simp only [hb]) | (with_reducible refine Run.gG ?_ ?_ <;> intro hb <;> try simp only [hb]) | (with_reducible refine Run.gQ ?_ ?_ <;> intro hb <;> try simp only [hb])))
    refine Run.loop (N := t.ts.length) (fun i s H => s = [.bool false, .int .i64 (i : Nat)] ∧ H.floor = 0 ∧ H.blk 0 = some ⟨3, [[x, y, z]]⟩ ∧ H.blk 1 = some ⟨3, [[x', y', z']]⟩ ∧ t.ts.take i = u.ts.take i) ⟨rfl, hf, b0, b1, by simp⟩ ?_
    rintro j s H hj ⟨rfl, hf, b0, b1, ht2⟩
    by_cases hlj : j < t.ts.length
    · have hlu : j < u.ts.length := by omega
      have i1 := h.s.idx (k := .i64) (i := j) (by simpa using hlj)
      have i2 := h'.s.idx (k := .i64) (i := j) (by simpa using hlu)
      simp only [List.getElem_map] at i1 i2
      simp only [ferry_ferryref09_Equal_l2]
      (repeat' (first | (simp only [wp, extractV, exists_eq_left', if_true, if_false, ite_true, ite_false, reduceIte, Nat.reduceAdd, Nat.reduceLT, Nat.reduceLeDiff, Nat.reduceEqDiff, b0, b1, h.s.len, List.length_map, ltT hlj, i1, i2, tm_len, tm_take, eq_tm, addN hlj h.big.2.2]) | (with_reducible refine Run.gC ?_ ?_ <;> intro hb <;> try simp only [hb]) | (with_reducible refine Run.gG ?_ ?_ <;> intro hb <;> try simp only [hb]) | (with_reducible refine Run.gQ ?_ ?_ <;> intro hb <;> try simp only [hb])))
      · refine ⟨hlj, hf, ?_⟩
        rw [take_snoc hlj, take_snoc hlu, ht2, of_decide_eq_true hb]
      · refine boolF fun g => ?_
        subst g
        simp at hb
    · simp only [ferry_ferryref09_Equal_l2]
      rw [take_all (by omega), take_all (by omega)] at ht2
      (repeat' (first | (simp only [wp, extractV, exists_eq_left', if_true, if_false, ite_true, ite_false, reduceIte, Nat.reduceAdd, Nat.reduceLT, Nat.reduceLeDiff, Nat.reduceEqDiff, b0, h.s.len, List.length_map, ltF hlj]) | (with_reducible refine Run.gC ?_ ?_ <;> intro hb <;> try simp only [hb]) | (with_reducible refine Run.gG ?_ ?_ <;> intro hb <;> try simp only [hb]) | (with_reducible refine Run.gQ ?_ ?_ <;> intro hb <;> try simp only [hb])))
      refine boolT ?_
      obtain ⟨t1, t2, t3⟩ := t
      obtain ⟨u1, u2, u3⟩ := u
      simp only at ht ht2 h3
      rw [ht, ht2, h3]


theorem equal_run (n : Nat) {H : Heap} {q q' : Nat → Prop} {x y z x' y' z' : V} {t u : Tab} {Q : V → Heap → Prop} (h : RdTab H q x y z t) (ht : TB t) (h' : RdTab H q' x' y' z' u) (hu : TB u) (k : Q (.bool (decide (t = u))) H) :
    Run (callV (cfg G) (sem (cfg G) (n + 2)) 25 [.agg [x, y, z], .agg [x', y', z']]) H Q := by
  obtain ⟨a, b, c, e, i⟩ := h.thaw ht
  obtain ⟨a', b', c', e', i'⟩ := h'.thaw hu
  exact Run.callSeen rfl (bs := [.agg [a, b, c], .agg [a', b', c']]) (by simp [e, e']) (equal_closed n i i') (fun ok H' => thaw_b ok H' _) k
theorem ints_run (n : Nat) {H : Heap} {x y : V} {a b : List Int} {Q : V → Heap → Prop} (hx : Rd H x 1 (a.map intRow)) (hy : Rd H y 1 (b.map intRow)) (hl : a.length ≤ big) (k : Q (.bool (decide (a = b))) H) :
    Run (callV (cfg G) (sem (cfg G) (n + 1)) 27 [x, y]) H Q := by
  obtain ⟨u, _, e, s⟩ := hx.thaw (flat_ir _)
  obtain ⟨v, _, e', s'⟩ := hy.thaw (flat_ir _)
  exact Run.callSeen rfl (bs := [u, v]) (by simp [e, e']) (equalInts_run n s s' hl) (fun ok H' => thaw_b ok H' _) k
end Go.Fv.Tr
