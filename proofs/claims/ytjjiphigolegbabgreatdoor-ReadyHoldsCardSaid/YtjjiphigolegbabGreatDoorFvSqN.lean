/-
  The law ReadyHolds, run to its end. By an AI agent; no person has read it.
-/
import Derived.Test.YtjjiphigolegbabGreatDoorFvSqM
import Derived.Test.YtjjiphigolegbabGreatDoorFvSqG
import Derived.Test.YtjjiphigolegbabGreatDoorFvTr14
set_option linter.unusedVariables false
set_option linter.unusedSimpArgs false
set_option linter.unusedSectionVars false
/-! The law ReadyHolds, run to its end. -/
namespace Go.Fv.Tr
open Go Go.Fv Go.Fv.Pl Go.Proofs
set_option linter.unusedSimpArgs false
set_option linter.unusedVariables false
variable {G : Nat → Option (List V)}

def opRow (k p a b c r : Int) : List V := [.int .i64 k, .int .i64 p, .int .i64 a, .int .i64 b, .int .i64 c, .int .u32 r]
/-- Who isn't named stays as he is, in his place. -/
def By (t u : Tab) (k p : Int) : Prop := u.ps.length = t.ps.length ∧ (k = 7 ∨ k = 8 ∨ ((∀ i : Nat, (i : Int) ≠ p → u.ps[i]? = t.ps[i]?) ∧ u.q.filter (· ≠ p) = t.q.filter (· ≠ p)))
theorem setP_get {ps : List Pr} {n : Int} {f : Pr → Pr} (h0 : 0 ≤ n) {i : Nat} (h : (i : Int) ≠ n) : (setP ps n f)[i]? = ps[i]? := by
  have : n.toNat ≠ i := by omega
  simp [setP, List.getElem?_modify, this]
theorem filter2 (q : List Int) (p : Int) : (q.filter (· ≠ p)).filter (· ≠ p) = q.filter (· ≠ p) := by
  rw [List.filter_filter]
  congr 1
  funext x
  simp
theorem filter_app (q : List Int) (p : Int) : (q ++ [p]).filter (· ≠ p) = q.filter (· ≠ p) := by
  rw [List.filter_append, List.filter_cons_of_neg (by simp), List.filter_nil, List.append_nil]
theorem by_set {t : Tab} {p : Int} {q : Pr} (hq : at? t.ps p = some q) (f : Pr → Pr) {q' : List Int} {ts' : List Tm} {k : Int} (h : q'.filter (· ≠ p) = t.q.filter (· ≠ p)) : By t ⟨setP t.ps p f, q', ts'⟩ k p :=
  ⟨setP_len _ _ _, .inr (.inr ⟨fun i hi => setP_get (at?_lt hq).1 hi, h⟩)⟩

def Called (t : Tab) (k p : Int) (r : V) : Prop := (∃ u a b c, r = .tuple [.agg [a, b, c], .nili] ∧ IsTab a b c u ∧ TabOk u ∧ By t u k p) ∨ r = badV 0
theorem Called.closedT {t : Tab} {k p : Int} {r : V} (h : Called t k p r) : r.closedT = true := by
  rcases h with ⟨u, a, b, c, rfl, ht, _⟩ | rfl
  · show ([V.agg [a, b, c], V.nili] : List V).all V.closedV = true
    simp only [List.all_cons, ht.closed, List.all_nil]
    rfl
  · rfl
theorem yield_by (t : Tab) (p : Int) : (t.yield p).q.filter (· ≠ p) = t.q.filter (· ≠ p) := by
  show (Pl.yield t.q p).filter _ = _
  unfold Pl.yield
  rw [filter_app, filter2]
theorem called_of {t u : Tab} {k p : Int} {ok : Prop} {r : V} (hok : TabOk t) (h : Ans t ok u r) (hu : ok → TabOk u ∧ By t u k p) : Called t k p r := by
  rcases h with ⟨_, ho, a, b, c, rfl, ht⟩ | ⟨g, _⟩ | ⟨_, _, rfl⟩
  · exact .inl ⟨u, a, b, c, rfl, ht, hu ho⟩
  · exact absurd hok g
  · exact .inr rfl
theorem ans_tup {t u : Tab} {ok : Prop} {r : V} (h : Ans t ok u r) : ∃ a b c e, r = .tuple [.agg [a, b, c], e] ∧ e.cells? = some [e] := by
  rcases h with ⟨_, _, a, b, c, rfl, _⟩ | ⟨_, rfl⟩ | ⟨_, _, rfl⟩ <;> exact ⟨_, _, _, _, rfl, rfl⟩
theorem ans2_tup {t u : Tab} {r : V} (h : Ans2 t u r) : ∃ a b c e, r = .tuple [.agg [a, b, c], e] ∧ e.cells? = some [e] := by
  rcases h with ⟨_, a, b, c, rfl, _⟩ | ⟨_, rfl⟩ <;> exact ⟨_, _, _, _, rfl, rfl⟩

set_option maxRecDepth 20000 in
set_option maxHeartbeats 2000000 in
theorem call_spec (hA : AErrs G) (n : Nat) {x y z : V} {t : Tab} (h : IsTab x y z t) (hok : TabOk t) (k p a b c r : Int) :
    ∃ v, callV (cfg G) (sem (cfg G) (n + 10)) 23 [.agg [x, y, z], .agg (opRow k p a b c r)] = M.ret v ∧ Called t k p v := by
  have hG := hA.errs
  refine callV_pureE rfl (by simp only [List.all_cons, h.closed, List.all_nil]; rfl) ?_
  rw [ferry_ferrylaw09_call_eq]
  simp only [ferry_ferrylaw09_call, opRow]
  by_cases h1 : k = 1
  · subst h1
    obtain ⟨v, e1, ha⟩ := yield_spec hG (n + 1) h p
    obtain ⟨a, b, c, e, rfl, he⟩ := ans_tup ha
    have hc := called_of (k := 1) (p := p) hok ha (fun ho => ⟨hok.yield (inOk_iff.1 ho), rfl, .inr (.inr ⟨fun i _ => rfl, yield_by t p⟩)⟩)
    (repeat' (first | (simp (maxSteps := 5000000) only [wp, extractV, exists_eq_left', if_true, if_false, ite_true, ite_false, reduceIte, Nat.reduceAdd, Nat.reduceLT, Nat.reduceLeDiff, Nat.reduceEqDiff, e1, beq_self_eq_true, tupV]) | (with_reducible refine Run.gC ?_ ?_ <;> intro hb <;> try simp only [hb]) | (with_reducible refine Run.gG ?_ ?_ <;> intro hb <;> try simp only [hb]) | (with_reducible refine Run.gQ ?_ ?_ <;> intro hb <;> try simp only [hb])))
    exact ⟨_, thawV_closedT hc.closedT _, hc⟩
  have k1 : (k == 1) = false := by simpa using h1
  by_cases h2 : k = 2
  · subst h2
    obtain ⟨v, e1, ha⟩ := block_spec hG (n + 1) h p a b c
    obtain ⟨a, b, c, e, rfl, he⟩ := ans_tup ha
    have hc := called_of (k := 2) (p := p) hok ha (fun ⟨⟨q, hq, hs⟩, hb⟩ => ⟨TabOk.block hok hq (by simpa using hs) hb, by_set hq _ (filter2 _ _)⟩)
    (repeat' (first | (simp (maxSteps := 5000000) only [wp, extractV, exists_eq_left', if_true, if_false, ite_true, ite_false, reduceIte, Nat.reduceAdd, Nat.reduceLT, Nat.reduceLeDiff, Nat.reduceEqDiff, e1, k1, beq_self_eq_true, tupV]) | (with_reducible refine Run.gC ?_ ?_ <;> intro hb <;> try simp only [hb]) | (with_reducible refine Run.gG ?_ ?_ <;> intro hb <;> try simp only [hb]) | (with_reducible refine Run.gQ ?_ ?_ <;> intro hb <;> try simp only [hb])))
    exact ⟨_, thawV_closedT hc.closedT _, hc⟩
  have k2 : (k == 2) = false := by simpa using h2
  by_cases h3 : k = 3
  · subst h3
    obtain ⟨v, e1, ha⟩ := wakeR_spec hG (n + 1) h p r
    obtain ⟨a, b, c, e, rfl, he⟩ := ans_tup ha
    have hc := called_of (k := 3) (p := p) hok ha (fun ⟨q, hq, hs⟩ => ⟨hok.wake hq (by simpa using hs) r, by_set hq _ (filter_app _ _)⟩)
    (repeat' (first | (simp (maxSteps := 5000000) only [wp, extractV, exists_eq_left', if_true, if_false, ite_true, ite_false, reduceIte, Nat.reduceAdd, Nat.reduceLT, Nat.reduceLeDiff, Nat.reduceEqDiff, e1, k1, k2, beq_self_eq_true, tupV]) | (with_reducible refine Run.gC ?_ ?_ <;> intro hb <;> try simp only [hb]) | (with_reducible refine Run.gG ?_ ?_ <;> intro hb <;> try simp only [hb]) | (with_reducible refine Run.gQ ?_ ?_ <;> intro hb <;> try simp only [hb])))
    exact ⟨_, thawV_closedT hc.closedT _, hc⟩
  have k3 : (k == 3) = false := by simpa using h3
  by_cases h4 : k = 4
  · subst h4
    obtain ⟨v, e1, ha⟩ := halt_spec hG (n + 1) h p a
    obtain ⟨a, b, c, e, rfl, he⟩ := ans_tup ha
    have hc := called_of (k := 4) (p := p) hok ha (fun ⟨⟨q, hq, hs⟩, hb⟩ => ⟨TabOk.halt hok hq (by simpa using hs) hb, by_set hq _ (filter2 _ _)⟩)
    (repeat' (first | (simp (maxSteps := 5000000) only [wp, extractV, exists_eq_left', if_true, if_false, ite_true, ite_false, reduceIte, Nat.reduceAdd, Nat.reduceLT, Nat.reduceLeDiff, Nat.reduceEqDiff, e1, k1, k2, k3, beq_self_eq_true, tupV]) | (with_reducible refine Run.gC ?_ ?_ <;> intro hb <;> try simp only [hb]) | (with_reducible refine Run.gG ?_ ?_ <;> intro hb <;> try simp only [hb]) | (with_reducible refine Run.gQ ?_ ?_ <;> intro hb <;> try simp only [hb])))
    exact ⟨_, thawV_closedT hc.closedT _, hc⟩
  have k4 : (k == 4) = false := by simpa using h4
  by_cases h5 : k = 5
  · subst h5
    obtain ⟨v, e1, ha⟩ := start_spec hG (n + 1) h p r a
    obtain ⟨a, b, c, e, rfl, he⟩ := ans_tup ha
    have hc := called_of (k := 5) (p := p) hok ha (fun ⟨⟨q, hq, hs⟩, hb⟩ => ⟨TabOk.start hok hq (by simpa using hs) hb, by_set hq _ (filter_app _ _)⟩)
    (repeat' (first | (simp (maxSteps := 5000000) only [wp, extractV, exists_eq_left', if_true, if_false, ite_true, ite_false, reduceIte, Nat.reduceAdd, Nat.reduceLT, Nat.reduceLeDiff, Nat.reduceEqDiff, e1, k1, k2, k3, k4, beq_self_eq_true, tupV]) | (with_reducible refine Run.gC ?_ ?_ <;> intro hb <;> try simp only [hb]) | (with_reducible refine Run.gG ?_ ?_ <;> intro hb <;> try simp only [hb]) | (with_reducible refine Run.gQ ?_ ?_ <;> intro hb <;> try simp only [hb])))
    exact ⟨_, thawV_closedT hc.closedT _, hc⟩
  have k5 : (k == 5) = false := by simpa using h5
  by_cases h6 : k = 6
  · subst h6
    obtain ⟨v, e1, ha⟩ := rank_spec hG (n + 1) h p a
    obtain ⟨a, b, c, e, rfl, he⟩ := ans_tup ha
    have hc := called_of (k := 6) (p := p) hok ha (fun ⟨⟨q, hq, hs⟩, hb⟩ => ⟨TabOk.rank hok hq hb, by_set hq _ rfl⟩)
    (repeat' (first | (simp (maxSteps := 5000000) only [wp, extractV, exists_eq_left', if_true, if_false, ite_true, ite_false, reduceIte, Nat.reduceAdd, Nat.reduceLT, Nat.reduceLeDiff, Nat.reduceEqDiff, e1, k1, k2, k3, k4, k5, beq_self_eq_true, tupV]) | (with_reducible refine Run.gC ?_ ?_ <;> intro hb <;> try simp only [hb]) | (with_reducible refine Run.gG ?_ ?_ <;> intro hb <;> try simp only [hb]) | (with_reducible refine Run.gQ ?_ ?_ <;> intro hb <;> try simp only [hb])))
    exact ⟨_, thawV_closedT hc.closedT _, hc⟩
  have k6 : (k == 6) = false := by simpa using h6
  by_cases h7 : k = 7
  · subst h7
    obtain ⟨v, e1, ha⟩ := wakeAll_spec (hA.at_ 1 rfl) hG (n + 1) h a b r
    rcases ha with ⟨_, a', b', c', rfl, ht⟩ | ⟨g, _⟩
    · have hc : Called t 7 p (.tuple [.agg [a', b', c'], .nili]) := .inl ⟨_, a', b', c', rfl, ht, hok.wakes (wt_nodup _ _ _) (wt_wl (t := t) a b).st, wakes_len, .inl rfl⟩
      (repeat' (first | (simp (maxSteps := 5000000) only [wp, extractV, exists_eq_left', if_true, if_false, ite_true, ite_false, reduceIte, Nat.reduceAdd, Nat.reduceLT, Nat.reduceLeDiff, Nat.reduceEqDiff, e1, k1, k2, k3, k4, k5, k6, beq_self_eq_true, tupV]) | (with_reducible refine Run.gC ?_ ?_ <;> intro hb <;> try simp only [hb]) | (with_reducible refine Run.gG ?_ ?_ <;> intro hb <;> try simp only [hb]) | (with_reducible refine Run.gQ ?_ ?_ <;> intro hb <;> try simp only [hb])))
      exact ⟨_, thawV_closedT hc.closedT _, hc⟩
    · exact absurd hok g
  have k7 : (k == 7) = false := by simpa using h7
  by_cases h8 : k = 8
  · subst h8
    obtain ⟨v, e1, ha⟩ := fireR_spec hA.terrs hG (n + 1) h a
    rcases ha with ⟨_, a', b', c', d', rfl, ht, _⟩ | ⟨g, _⟩
    · have hc : Called t 8 p (.tuple [.agg [a', b', c'], .nili]) := .inl ⟨_, a', b', c', rfl, ht, hok.fire a, wakes_len, .inr (.inl rfl)⟩
      (repeat' (first | (simp (maxSteps := 5000000) only [wp, extractV, exists_eq_left', if_true, if_false, ite_true, ite_false, reduceIte, Nat.reduceAdd, Nat.reduceLT, Nat.reduceLeDiff, Nat.reduceEqDiff, e1, k1, k2, k3, k4, k5, k6, k7, beq_self_eq_true, tupV]) | (with_reducible refine Run.gC ?_ ?_ <;> intro hb <;> try simp only [hb]) | (with_reducible refine Run.gG ?_ ?_ <;> intro hb <;> try simp only [hb]) | (with_reducible refine Run.gQ ?_ ?_ <;> intro hb <;> try simp only [hb])))
      exact ⟨_, thawV_closedT hc.closedT _, hc⟩
    · exact absurd hok g
  have k8 : (k == 8) = false := by simpa using h8
  have hc : Called t k p (.tuple [.agg [x, y, z], .nili]) := .inl ⟨t, x, y, z, rfl, h, hok, rfl, .inr (.inr ⟨fun _ _ => rfl, rfl⟩)⟩
  (repeat' (first | (simp (maxSteps := 5000000) only [wp, extractV, exists_eq_left', if_true, if_false, ite_true, ite_false, reduceIte, Nat.reduceAdd, Nat.reduceLT, Nat.reduceLeDiff, Nat.reduceEqDiff, k1, k2, k3, k4, k5, k6, k7, k8, tupV]) | (with_reducible refine Run.gC ?_ ?_ <;> intro hb <;> try simp only [hb]) | (with_reducible refine Run.gG ?_ ?_ <;> intro hb <;> try simp only [hb]) | (with_reducible refine Run.gQ ?_ ?_ <;> intro hb <;> try simp only [hb])))
  exact ⟨_, thawV_closedT hc.closedT _, hc⟩

set_option maxRecDepth 20000 in
theorem bystander_spec (n : Nat) {x y z x' y' z' : V} {t u : Tab} (h : IsTab x y z t) (h' : IsTab x' y' z' u) (hok : TabOk t) (hok' : TabOk u) {k p : Int} (hb : By t u k p) (a b c r : Int) :
    callV (cfg G) (sem (cfg G) (n + 2)) 26 [.agg [x, y, z], .agg [x', y', z'], .agg (opRow k p a b c r)] = M.ret (.bool true) := by
  refine callV_pure0 rfl (by simp only [List.all_cons, h.closed, h'.closed, List.all_nil]; rfl) rfl ?_
  rw [ferry_ferrylaw09_bystander_eq]
  simp only [ferry_ferrylaw09_bystander, opRow]
  have el : ((t.ps.length : Int) == (u.ps.length : Int)) = true := by rw [hb.1]; exact beq_self_eq_true _
  have few := ((ROk_iff t).2 hok).few
  have few' := ((ROk_iff u).2 hok').few
  by_cases h7 : k = 7
  · subst h7
    (repeat' (first | (simp only [wp, extractV, exists_eq_left', if_true, if_false, ite_true, ite_false, reduceIte, Nat.reduceAdd, Nat.reduceLT, Nat.reduceLeDiff, Nat.reduceEqDiff, h.p.len, h'.p.len, List.length_map, el, beq_self_eq_true]) | (with_reducible refine Run.gC ?_ ?_ <;> intro hb <;> try simp only [hb]) | (with_reducible refine Run.gG ?_ ?_ <;> intro hb <;> try simp only [hb]) | (with_reducible refine Run.gQ ?_ ?_ <;> intro hb <;> try simp only [hb])))
  have k7 : (k == 7) = false := by simpa using h7
  by_cases h8 : k = 8
  · subst h8
    (repeat' (first | (simp only [wp, extractV, exists_eq_left', if_true, if_false, ite_true, ite_false, reduceIte, Nat.reduceAdd, Nat.reduceLT, Nat.reduceLeDiff, Nat.reduceEqDiff, h.p.len, h'.p.len, List.length_map, el, k7, beq_self_eq_true]) | (with_reducible refine Run.gC ?_ ?_ <;> intro hb <;> try simp only [hb]) | (with_reducible refine Run.gG ?_ ?_ <;> intro hb <;> try simp only [hb]) | (with_reducible refine Run.gQ ?_ ?_ <;> intro hb <;> try simp only [hb])))
  have k8 : (k == 8) = false := by simpa using h8
  obtain ⟨hps, hqs⟩ := (hb.2.resolve_left h7).resolve_left h8
  (repeat' (first | (simp only [wp, extractV, exists_eq_left', if_true, if_false, ite_true, ite_false, reduceIte, Nat.reduceAdd, Nat.reduceLT, Nat.reduceLeDiff, Nat.reduceEqDiff, h.p.len, h'.p.len, List.length_map, el, k7, k8]) | (with_reducible refine Run.gC ?_ ?_ <;> intro hb <;> try simp only [hb]) | (with_reducible refine Run.gG ?_ ?_ <;> intro hb <;> try simp only [hb]) | (with_reducible refine Run.gQ ?_ ?_ <;> intro hb <;> try simp only [hb])))
  refine Run.loop (N := t.ps.length) (fun i s H => s = [.bool false, .int .i64 (i : Nat)] ∧ H.floor = 0 ∧ H.next = 3 ∧ H.blk 0 = some ⟨3, [[x, y, z]]⟩ ∧ H.blk 1 = some ⟨3, [[x', y', z']]⟩ ∧ H.blk 2 = some ⟨6, [[.int .i64 k, .int .i64 p, .int .i64 a, .int .i64 b, .int .i64 c, .int .u32 r]]⟩)
    ⟨rfl, rfl, rfl, rfl, rfl, rfl⟩ ?_
  rintro i s H hi ⟨rfl, b1, b2, b3, b4, b5⟩
  by_cases hlt : i < t.ps.length
  · have hlu : i < u.ps.length := by rw [hb.1]; exact hlt
    have i1 := h.p.idx (k := .i64) (i := i) (by simpa using hlt)
    have i2 := h'.p.idx (k := .i64) (i := i) (by simpa using hlu)
    simp only [List.getElem_map] at i1 i2
    have w1 := h.wp _ (List.getElem_mem hlt)
    have w2 := h'.wp _ (List.getElem_mem hlu)
    simp only [ferry_ferrylaw09_bystander_l1]
    by_cases e : ((i : Nat) : Int) = p
    · have e1 : (((i : Nat) : Int) == p) = true := by simpa using e
      (repeat' (first | (simp only [wp, extractV, exists_eq_left', if_true, if_false, ite_true, ite_false, reduceIte, Nat.reduceAdd, Nat.reduceLT, Nat.reduceLeDiff, Nat.reduceEqDiff, b3, b4, b5, h.p.len, List.length_map, ltT hlt, e1, addN hlt h.big.1]) | (with_reducible refine Run.gC ?_ ?_ <;> intro hb <;> try simp only [hb]) | (with_reducible refine Run.gG ?_ ?_ <;> intro hb <;> try simp only [hb]) | (with_reducible refine Run.gQ ?_ ?_ <;> intro hb <;> try simp only [hb])))
      exact ⟨hlt, b1, b2⟩
    · have e1 : (((i : Nat) : Int) == p) = false := by simpa using e
      have ee : t.ps[i] = u.ps[i] := by
        have := hps i e
        rw [List.getElem?_eq_getElem hlt, List.getElem?_eq_getElem hlu] at this
        exact (Option.some.inj this).symm
      (repeat' (first | (simp only [wp, extractV, exists_eq_left', if_true, if_false, ite_true, ite_false, reduceIte, Nat.reduceAdd, Nat.reduceLT, Nat.reduceLeDiff, Nat.reduceEqDiff, b3, b4, b5, h.p.len, List.length_map, ltT hlt, e1, i1, i2, pr_len w1, pr_len w2, pr_take w1, pr_take w2, eq_pr w1 w2, decide_eq_true ee, addN hlt h.big.1]) | (with_reducible refine Run.gC ?_ ?_ <;> intro hb <;> try simp only [hb]) | (with_reducible refine Run.gG ?_ ?_ <;> intro hb <;> try simp only [hb]) | (with_reducible refine Run.gQ ?_ ?_ <;> intro hb <;> try simp only [hb])))
      exact ⟨hlt, b1, b2⟩
  simp only [ferry_ferrylaw09_bystander_l1]
  (repeat' (first | (simp only [wp, extractV, exists_eq_left', if_true, if_false, ite_true, ite_false, reduceIte, Nat.reduceAdd, Nat.reduceLT, Nat.reduceLeDiff, Nat.reduceEqDiff, b3, b4, b5, h.p.len, List.length_map, ltF hlt, h.q.len]) | (with_reducible refine Run.gC ?_ ?_ <;> intro hb <;> try simp only [hb]) | (with_reducible refine Run.gG ?_ ?_ <;> intro hb <;> try simp only [hb]) | (with_reducible refine Run.gQ ?_ ?_ <;> intro hb <;> try simp only [hb])))
  refine Run.loop (N := t.q.length) (fun i s H => ∃ d, s = [d, .int .i64 (i : Nat)] ∧ H.floor = 0 ∧ 3 ≤ H.next ∧ H.blk 0 = some ⟨3, [[x, y, z]]⟩ ∧ H.blk 1 = some ⟨3, [[x', y', z']]⟩ ∧ H.blk 2 = some ⟨6, [[.int .i64 k, .int .i64 p, .int .i64 a, .int .i64 b, .int .i64 c, .int .u32 r]]⟩ ∧
    Own H d 1 (((t.q.take i).filter (· ≠ p)).map intRow) ∧ (∀ l, loc d = some l → 3 ≤ l) ∧ True) ⟨_, rfl, b1, by omega, b3, b4, b5, Own.nils _ _, (fun l g => by cases g), trivial⟩ ?_
  rintro j s H hj ⟨d, rfl, b1, b2, b3, b4, b5, od, ld, _⟩
  by_cases hlj : j < t.q.length
  · have i1 := h.q.idx (k := .i64) (i := j) (by simpa using hlj)
    simp only [List.getElem_map] at i1
    have hlen := List.length_filter_le (fun x => decide (x ≠ p)) (t.q.take j)
    rw [List.length_take] at hlen
    have ht := take_snoc hlj
    simp only [ferry_ferrylaw09_bystander_l2]
    by_cases e : t.q[j] = p
    · have e1 : (t.q[j] == p) = true := by simpa using e
      (repeat' (first | (simp only [wp, extractV, exists_eq_left', if_true, if_false, ite_true, ite_false, reduceIte, Nat.reduceAdd, Nat.reduceLT, Nat.reduceLeDiff, Nat.reduceEqDiff, ltT hlj, i1, ir_at, b5, e1, addN hlj h.big.2.1]) | (with_reducible refine Run.gC ?_ ?_ <;> intro hb <;> try simp only [hb]) | (with_reducible refine Run.gG ?_ ?_ <;> intro hb <;> try simp only [hb]) | (with_reducible refine Run.gQ ?_ ?_ <;> intro hb <;> try simp only [hb])))
      refine ⟨hlj, _, rfl, b1, b2, b3, b4, ?_, ld⟩
      rw [ht, List.filter_append, List.filter_cons_of_neg (by simp [e]), List.filter_nil, List.append_nil]
      exact od
    · have e1 : (t.q[j] == p) = false := by simpa using e
      (repeat' (first | (simp only [wp, extractV, exists_eq_left', if_true, if_false, ite_true, ite_false, reduceIte, Nat.reduceAdd, Nat.reduceLT, Nat.reduceLeDiff, Nat.reduceEqDiff, ltT hlj, i1, ir_at, b5, e1, addN hlj h.big.2.1]) | (with_reducible refine Run.gC ?_ ?_ <;> intro hb <;> try simp only [hb]) | (with_reducible refine Run.gG ?_ ?_ <;> intro hb <;> try simp only [hb]) | (with_reducible refine Run.gQ ?_ ?_ <;> intro hb <;> try simp only [hb])))
      refine (Run.slice (n := 0)).2 ⟨[intRow t.q[j]], rfl, ?_⟩
      have fa : Frame H (H.add ⟨1, [intRow t.q[j]]⟩) (fun _ => False) := Frame.add _ _
      refine (Run.app (items := [intRow t.q[j]]) (bytes := 8) (by show H.floor ≤ H.next + 1; rw [b1]; exact Nat.zero_le _) (od.frame fa fun _ _ g => g) (by simp [itemsV, Heap.add_blk]) (by simp only [List.length_map, List.length_singleton]; unfold room; omega)).mono fun d' H3 ⟨o3, f3, l3⟩ => ?_
      have f4 : Frame H H3 (fun l => loc d = some l) := fa.trans f3 (fun _ _ g => g.elim) (fun _ _ g => g)
      have l3' : ∀ l, loc d' = some l → loc d = some l ∨ H.next + 1 ≤ l := l3
      have n3 : H.next + 1 ≤ H3.next := f3.next
      (repeat' (first | (simp only [wp, extractV, exists_eq_left', if_true, if_false, ite_true, ite_false, reduceIte, Nat.reduceAdd, Nat.reduceLT, Nat.reduceLeDiff, Nat.reduceEqDiff, addN hlj h.big.2.1]) | (with_reducible refine Run.gC ?_ ?_ <;> intro hb <;> try simp only [hb]) | (with_reducible refine Run.gG ?_ ?_ <;> intro hb <;> try simp only [hb]) | (with_reducible refine Run.gQ ?_ ?_ <;> intro hb <;> try simp only [hb])))
      refine ⟨hlj, _, rfl, f4.floor.trans b1, by omega, (f4.old 0 (by omega) fun g => by have := ld 0 g; omega).trans b3, (f4.old 1 (by omega) fun g => by have := ld 1 g; omega).trans b4, (f4.old 2 (by omega) fun g => by have := ld 2 g; omega).trans b5, ?_, fun l g => ?_⟩
      · rw [ht, List.filter_append, List.filter_cons_of_pos (by simp [e]), List.filter_nil, List.map_append]
        exact o3
      · rcases l3' l g with g | g
        · exact ld l g
        · omega
  simp only [ferry_ferrylaw09_bystander_l2]
  rw [take_all (by omega)] at od
  (repeat' (first | (simp only [wp, extractV, exists_eq_left', if_true, if_false, ite_true, ite_false, reduceIte, Nat.reduceAdd, Nat.reduceLT, Nat.reduceLeDiff, Nat.reduceEqDiff, ltF hlj, b4, h'.q.len, List.length_map]) | (with_reducible refine Run.gC ?_ ?_ <;> intro hb <;> try simp only [hb]) | (with_reducible refine Run.gG ?_ ?_ <;> intro hb <;> try simp only [hb]) | (with_reducible refine Run.gQ ?_ ?_ <;> intro hb <;> try simp only [hb])))
  refine Run.loop (N := u.q.length) (fun i s H => ∃ d', s = [d', .int .i64 (i : Nat)] ∧ H.floor = 0 ∧ 3 ≤ H.next ∧ H.blk 0 = some ⟨3, [[x, y, z]]⟩ ∧ H.blk 1 = some ⟨3, [[x', y', z']]⟩ ∧ H.blk 2 = some ⟨6, [[.int .i64 k, .int .i64 p, .int .i64 a, .int .i64 b, .int .i64 c, .int .u32 r]]⟩ ∧
    Own H d' 1 (((u.q.take i).filter (· ≠ p)).map intRow) ∧ (∀ l, loc d' = some l → 3 ≤ l) ∧ Own H d 1 ((t.q.filter (· ≠ p)).map intRow) ∧ ∀ l, loc d' = some l → loc d ≠ some l) ⟨_, rfl, b1, b2, b3, b4, b5, Own.nils _ _, (fun l g => by cases g), od, fun l g => by cases g⟩ ?_
  clear ld b1 b2 b3 b4 b5
  rename_i Hx _
  clear od
  rintro m s H hj ⟨d', rfl, b1, b2, b3, b4, b5, od, ld, oe, ne⟩
  by_cases hlm : m < u.q.length
  · have i1 := h'.q.idx (k := .i64) (i := m) (by simpa using hlm)
    simp only [List.getElem_map] at i1
    have hlen := List.length_filter_le (fun x => decide (x ≠ p)) (u.q.take m)
    rw [List.length_take] at hlen
    have ht := take_snoc hlm
    simp only [ferry_ferrylaw09_bystander_l3]
    by_cases e : u.q[m] = p
    · have e1 : (u.q[m] == p) = true := by simpa using e
      (repeat' (first | (simp only [wp, extractV, exists_eq_left', if_true, if_false, ite_true, ite_false, reduceIte, Nat.reduceAdd, Nat.reduceLT, Nat.reduceLeDiff, Nat.reduceEqDiff, ltT hlm, i1, ir_at, b5, e1, addN hlm h'.big.2.1]) | (with_reducible refine Run.gC ?_ ?_ <;> intro hb <;> try simp only [hb]) | (with_reducible refine Run.gG ?_ ?_ <;> intro hb <;> try simp only [hb]) | (with_reducible refine Run.gQ ?_ ?_ <;> intro hb <;> try simp only [hb])))
      refine ⟨hlm, _, rfl, b1, b2, b3, b4, ?_, ld, oe, ne⟩
      rw [ht, List.filter_append, List.filter_cons_of_neg (by simp [e]), List.filter_nil, List.append_nil]
      exact od
    · have e1 : (u.q[m] == p) = false := by simpa using e
      (repeat' (first | (simp only [wp, extractV, exists_eq_left', if_true, if_false, ite_true, ite_false, reduceIte, Nat.reduceAdd, Nat.reduceLT, Nat.reduceLeDiff, Nat.reduceEqDiff, ltT hlm, i1, ir_at, b5, e1, addN hlm h'.big.2.1]) | (with_reducible refine Run.gC ?_ ?_ <;> intro hb <;> try simp only [hb]) | (with_reducible refine Run.gG ?_ ?_ <;> intro hb <;> try simp only [hb]) | (with_reducible refine Run.gQ ?_ ?_ <;> intro hb <;> try simp only [hb])))
      refine (Run.slice (n := 0)).2 ⟨[intRow u.q[m]], rfl, ?_⟩
      have fa : Frame H (H.add ⟨1, [intRow u.q[m]]⟩) (fun _ => False) := Frame.add _ _
      refine (Run.app (items := [intRow u.q[m]]) (bytes := 8) (by show H.floor ≤ H.next + 1; rw [b1]; exact Nat.zero_le _) (od.frame fa fun _ _ g => g) (by simp [itemsV, Heap.add_blk]) (by simp only [List.length_map, List.length_singleton]; unfold room; omega)).mono fun d2 H3 ⟨o3, f3, l3⟩ => ?_
      have f4 : Frame H H3 (fun l => loc d' = some l) := fa.trans f3 (fun _ _ g => g.elim) (fun _ _ g => g)
      have l3' : ∀ l, loc d2 = some l → loc d' = some l ∨ H.next + 1 ≤ l := l3
      have n3 : H.next + 1 ≤ H3.next := f3.next
      (repeat' (first | (simp only [wp, extractV, exists_eq_left', if_true, if_false, ite_true, ite_false, reduceIte, Nat.reduceAdd, Nat.reduceLT, Nat.reduceLeDiff, Nat.reduceEqDiff, addN hlm h'.big.2.1]) | (with_reducible refine Run.gC ?_ ?_ <;> intro hb <;> try simp only [hb]) | (with_reducible refine Run.gG ?_ ?_ <;> intro hb <;> try simp only [hb]) | (with_reducible refine Run.gQ ?_ ?_ <;> intro hb <;> try simp only [hb])))
      refine ⟨hlm, _, rfl, f4.floor.trans b1, by omega, (f4.old 0 (by omega) fun g => by have := ld 0 g; omega).trans b3, (f4.old 1 (by omega) fun g => by have := ld 1 g; omega).trans b4, (f4.old 2 (by omega) fun g => by have := ld 2 g; omega).trans b5, ?_, fun l g => ?_, oe.frame f4 fun l g1 g2 => ne l g2 g1, fun l g1 g2 => ?_⟩
      · rw [ht, List.filter_append, List.filter_cons_of_pos (by simp [e]), List.filter_nil, List.map_append]
        exact o3
      · rcases l3' l g with g | g
        · exact ld l g
        · omega
      · rcases l3' l g1 with g | g
        · exact ne l g g2
        · have := oe.lt g2; omega
  simp only [ferry_ferrylaw09_bystander_l3]
  rw [take_all (by omega)] at od
  (repeat' (first | (simp only [wp, extractV, exists_eq_left', if_true, if_false, ite_true, ite_false, reduceIte, Nat.reduceAdd, Nat.reduceLT, Nat.reduceLeDiff, Nat.reduceEqDiff, ltF hlm]) | (with_reducible refine Run.gC ?_ ?_ <;> intro hb <;> try simp only [hb]) | (with_reducible refine Run.gG ?_ ?_ <;> intro hb <;> try simp only [hb]) | (with_reducible refine Run.gQ ?_ ?_ <;> intro hb <;> try simp only [hb])))
  obtain ⟨v1, q1, _, s1⟩ := oe.thawV (flat_ir _) true
  obtain ⟨v2, q2, _, s2⟩ := od.thawV (flat_ir _) true
  have hl1 := List.length_filter_le (fun x => decide (x ≠ p)) t.q
  have e27 := equalInts_spec (G := G) n s1 s2 (by unfold big; omega)
  rw [decide_eq_true hqs.symm] at e27
  exact (Run.callRef rfl (mapMV2 q1 q2) (closed2 s1.closedV s2.closedV) e27 rfl).2 rfl

structure Op6 where
  k : Int
  p : Int
  a : Int
  b : Int
  c : Int
  r : Int
def Op6.row (o : Op6) : List V := opRow o.k o.p o.a o.b o.c o.r
theorem op_len (o : Op6) : o.row.length = 6 := rfl
theorem op_take (o : Op6) : o.row.take 6 = o.row := rfl
theorem op_at0 (o : Op6) : o.row[0]? = some (.int .i64 o.k) := rfl

set_option maxRecDepth 20000 in
theorem holds_run (hA : AErrs G) (n : Nat) {x y z sc : V} {t : Tab} {ops : List Op6} (h : IsTab x y z t) (hs : Sls sc 6 (ops.map Op6.row)) (hl : ops.length ≤ big) :
    ∃ v H', sem (cfg G) (n + 11) 4 [.agg [x, y, z], sc] Heap.empty = some (v, H') ∧ v = .bool true := by
  show Run (sem (cfg G) (n + 11) 4 [.agg [x, y, z], sc]) Heap.empty fun v _ => v = .bool true
  have hG := hA.errs
  rw [ferry_ferrylaw09_ReadyHolds_eq]
  simp only [ferry_ferrylaw09_ReadyHolds]
  have ln : lenV .nils = some (.int .i64 0) := rfl
  by_cases hok : TabOk t
  · (repeat' (first | (simp only [wp, extractV, exists_eq_left', if_true, if_false, ite_true, ite_false, reduceIte, Nat.reduceAdd, Nat.reduceLT, Nat.reduceLeDiff, Nat.reduceEqDiff, awake_spec hG (n + 1), ref_good_spec (n + 7) h, decide_eq_true hok, to_spec (n + 9) h, hs.len, List.length_map]) | (with_reducible refine Run.gC ?_ ?_ <;> intro hb <;> try simp only [hb]) | (with_reducible refine Run.gG ?_ ?_ <;> intro hb <;> try simp only [hb]) | (with_reducible refine Run.gQ ?_ ?_ <;> intro hb <;> try simp only [hb])))
    refine Run.loop (N := ops.length) (fun i s H => s = [.bool false, .int .i64 (i : Nat)] ∧ H.floor = 0 ∧ 2 ≤ H.next ∧ ∃ u a b c, H.blk 1 = some ⟨3, [[a, b, c]]⟩ ∧ IsTab a b c u ∧ TabOk u) ⟨rfl, rfl, by exact Nat.le_refl 2, t, x, y, z, rfl, h, hok⟩ ?_
    rintro i s H hi ⟨rfl, hf, hn, u, a, b, c, hb, hu, hou⟩
    by_cases hlt : i < ops.length
    · have i1 := hs.idx (k := .i64) (i := i) (by simpa using hlt)
      simp only [List.getElem_map] at i1
      have n1 : ¬ 1 = H.next := by omega
      have n2 : ¬ H.next = 1 := by omega
      have n3 : ¬ 1 = H.next + 1 := by omega
      have n4 : ¬ H.next = H.next + 1 := by omega
      obtain ⟨v, ev, hc⟩ := call_spec hA n hu hou ops[i].k ops[i].p ops[i].a ops[i].b ops[i].c ops[i].r
      have ev' : callV (cfg G) (sem (cfg G) (n + 10)) 23 [.agg [a, b, c], .agg ops[i].row] = M.ret v := ev
      rcases hc with ⟨w, a', b', c', rfl, hw, how, hby⟩ | rfl
      · have eb : callV (cfg G) (sem (cfg G) (n + 10)) 26 [.agg [a, b, c], .agg [a', b', c'], .agg ops[i].row] = M.ret (.bool true) := bystander_spec (n + 8) hu hw hou how hby _ _ _ _
        simp only [ferry_ferrylaw09_ReadyHolds_l1]
        (repeat' (first | (simp only [wp, extractV, exists_eq_left', if_true, if_false, ite_true, ite_false, reduceIte, Nat.reduceAdd, Nat.reduceLT, Nat.reduceLeDiff, Nat.reduceEqDiff, ltT hlt, i1, op_len, op_take, hb, n1, n2, n3, n4, ev', ready_good_spec hG (n + 4) hw, decide_eq_true how, from_spec (n + 9) hw, ref_good_spec (n + 7) hw, eb, hf, addN hlt hl]) | (with_reducible refine Run.gC ?_ ?_ <;> intro hb <;> try simp only [hb]) | (with_reducible refine Run.gG ?_ ?_ <;> intro hb <;> try simp only [hb]) | (with_reducible refine Run.gQ ?_ ?_ <;> intro hb <;> try simp only [hb])))
        exact ⟨hlt, w, a', b', c', rfl, hw, how⟩
      · simp only [ferry_ferrylaw09_ReadyHolds_l1]
        (repeat' (first | (simp only [wp, extractV, exists_eq_left', if_true, if_false, ite_true, ite_false, reduceIte, Nat.reduceAdd, Nat.reduceLT, Nat.reduceLeDiff, Nat.reduceEqDiff, ltT hlt, i1, op_len, op_take, hb, n1, n2, n3, n4, ev', badV, eq_err, plain_spec hA (n + 7) num_arg, decide_true, ln, beq_self_eq_true, hf, addN hlt hl]) | (with_reducible refine Run.gC ?_ ?_ <;> intro hb <;> try simp only [hb]) | (with_reducible refine Run.gG ?_ ?_ <;> intro hb <;> try simp only [hb]) | (with_reducible refine Run.gQ ?_ ?_ <;> intro hb <;> try simp only [hb])))
        exact ⟨hlt, u, a, b, c, rfl, hu, hou⟩
    · simp only [ferry_ferrylaw09_ReadyHolds_l1]
      (repeat' (first | (simp only [wp, extractV, exists_eq_left', if_true, if_false, ite_true, ite_false, reduceIte, Nat.reduceAdd, Nat.reduceLT, Nat.reduceLeDiff, Nat.reduceEqDiff, ltF hlt]) | (with_reducible refine Run.gC ?_ ?_ <;> intro hb <;> try simp only [hb]) | (with_reducible refine Run.gG ?_ ?_ <;> intro hb <;> try simp only [hb]) | (with_reducible refine Run.gQ ?_ ?_ <;> intro hb <;> try simp only [hb])))
  · have ep : pickV' t = .tuple [.int .i64 0, errV 1] := if_neg hok
    (repeat' (first | (simp only [wp, extractV, exists_eq_left', if_true, if_false, ite_true, ite_false, reduceIte, Nat.reduceAdd, Nat.reduceLT, Nat.reduceLeDiff, Nat.reduceEqDiff, awake_spec hG (n + 1), ref_good_spec (n + 7) h, decide_eq_false hok, to_spec (n + 9) h, pick_spec hG (n + 3) h, ep, plain_spec hA (n + 7) num_state, decide_true]) | (with_reducible refine Run.gC ?_ ?_ <;> intro hb <;> try simp only [hb]) | (with_reducible refine Run.gG ?_ ?_ <;> intro hb <;> try simp only [hb]) | (with_reducible refine Run.gQ ?_ ?_ <;> intro hb <;> try simp only [hb])))
end Go.Fv.Tr
