/-
  What the document's functions of the layer 9 answer. By an AI agent; no person has read it.
-/
import Derived.Test.YtjjiphigolegbabDoorFvSpD
import Derived.Test.YtjjiphigolegbabDoorFvTr3
set_option linter.unusedVariables false
set_option linter.unusedSimpArgs false
set_option linter.unusedSectionVars false
/-! What the document's functions of the layer 9 answer. -/
namespace Go.Fv.Tr
open Go Go.Fv Go.Fv.Pl Go.Proofs
set_option linter.unusedSimpArgs false
set_option linter.unusedVariables false
variable {G : Nat → Option (List V)}

theorem count_le {l : List Int} {a : Int} : l.count a ≤ l.length := List.count_le_length
theorem timers_spec (n : Nat) {x y z : V} {t : Tab} (h : IsTab x y z t) (p : Int) : callV (cfg G) (sem (cfg G) (n + 1)) 108 [.agg [x, y, z], .int .i64 p] = M.ret (.int .i64 (cnt t.ts p : Nat)) := by
  refine callV_pure0 rfl (by simp [h.closed, cI]) rfl ?_
  rw [ferry_ferryref09_timers_eq]
  simp only [ferry_ferryref09_timers]
  (repeat' (first | (simp only [wp, extractV, exists_eq_left', if_true, if_false, ite_true, ite_false, reduceIte, Nat.reduceAdd, Nat.reduceLT, Nat.reduceLeDiff, Nat.reduceEqDiff]) | (with_reducible refine Run.gC ?_ ?_ <;> intro hb <;> try simp only [hb]) | (with_reducible refine Run.gG ?_ ?_ <;> intro hb <;> try simp only [hb]) | (with_reducible refine Run.gQ ?_ ?_ <;> intro hb <;> try simp only [hb])))
  refine Run.loop (N := t.ts.length) (fun i s H => s = [.int .i64 (cnt (t.ts.take i) p : Nat), .int .i64 (i : Nat)] ∧ H.floor = 0 ∧ H.blk 0 = some ⟨3, [[x, y, z]]⟩)
    ⟨rfl, rfl, rfl⟩ ?_
  rintro i s H hi ⟨rfl, hf, hb0⟩
  by_cases hlt : i < t.ts.length
  · have h2 := h.s.idx (k := .i64) (i := i) (by simpa using hlt)
    simp only [List.getElem_map] at h2
    have hc : cnt (t.ts.take (i + 1)) p = cnt (t.ts.take i) p + if t.ts[i].proc = p then 1 else 0 := by
      unfold cnt
      rw [take_snoc hlt, List.map_append, List.count_append]
      simp [List.count_singleton]
    have hcl : cnt (t.ts.take i) p ≤ i := by
      have : cnt (t.ts.take i) p ≤ ((t.ts.take i).map Tm.proc).length := count_le
      rw [List.length_map, List.length_take] at this
      omega
    simp only [ferry_ferryref09_timers_l1, ferry_ferryref09_timers_j1]
    (repeat' (first | (simp only [wp, extractV, exists_eq_left', if_true, if_false, ite_true, ite_false, reduceIte, Nat.reduceAdd, Nat.reduceLT, Nat.reduceLeDiff, Nat.reduceEqDiff, h.s.len, List.length_map, ltT hlt, h2, addN hlt h.big.2.2, hf, hb0, tm_proc, addN (show cnt (t.ts.take i) p < t.ts.length by omega) h.big.2.2]) | (with_reducible refine Run.gC ?_ ?_ <;> intro hb <;> try simp only [hb]) | (with_reducible refine Run.gG ?_ ?_ <;> intro hb <;> try simp only [hb]) | (with_reducible refine Run.gQ ?_ ?_ <;> intro hb <;> try simp only [hb])))
    · have hb' : t.ts[i].proc = p := by simpa using hb
      rw [if_pos hb'] at hc
      exact ⟨hlt, by rw [hc]⟩
    · have hb' : t.ts[i].proc ≠ p := by simpa using hb
      rw [if_neg hb'] at hc
      exact ⟨hlt, by rw [hc]; rfl⟩
  · simp only [ferry_ferryref09_timers_l1]
    (repeat' (first | (simp only [wp, extractV, exists_eq_left', if_true, if_false, ite_true, ite_false, reduceIte, Nat.reduceAdd, Nat.reduceLT, Nat.reduceLeDiff, Nat.reduceEqDiff, h.s.len, List.length_map, ltF hlt, hb0]) | (with_reducible refine Run.gC ?_ ?_ <;> intro hb <;> try simp only [hb]) | (with_reducible refine Run.gG ?_ ?_ <;> intro hb <;> try simp only [hb]) | (with_reducible refine Run.gQ ?_ ?_ <;> intro hb <;> try simp only [hb])))
    rw [take_all (by omega)]

theorem count_spec (n : Nat) {x : V} {l : List Int} (hx : Sls x 1 (l.map intRow)) (hl : l.length ≤ big) (p : Int) : callV (cfg G) (sem (cfg G) (n + 1)) 109 [x, .int .i64 p] = M.ret (.int .i64 (l.count p : Nat)) := by
  refine callV_pure0 rfl (by simp [hx.closedV, cI]) rfl ?_
  rw [ferry_ferryref09_count_eq]
  simp only [ferry_ferryref09_count]
  (repeat' (first | (simp only [wp, extractV, exists_eq_left', if_true, if_false, ite_true, ite_false, reduceIte, Nat.reduceAdd, Nat.reduceLT, Nat.reduceLeDiff, Nat.reduceEqDiff]) | (with_reducible refine Run.gC ?_ ?_ <;> intro hb <;> try simp only [hb]) | (with_reducible refine Run.gG ?_ ?_ <;> intro hb <;> try simp only [hb]) | (with_reducible refine Run.gQ ?_ ?_ <;> intro hb <;> try simp only [hb])))
  refine Run.loop (N := l.length) (fun i s H => s = [.int .i64 ((l.take i).count p : Nat), .int .i64 (i : Nat)]) rfl ?_
  rintro i s H hi rfl
  by_cases hlt : i < l.length
  · have h2 := hx.idx (k := .i64) (i := i) (by simpa using hlt)
    simp only [List.getElem_map] at h2
    have hc : (l.take (i + 1)).count p = (l.take i).count p + if l[i] = p then 1 else 0 := by
      rw [take_snoc hlt, List.count_append]
      simp [List.count_singleton]
    have hcl : (l.take i).count p ≤ i := by
      have : (l.take i).count p ≤ (l.take i).length := count_le
      rw [List.length_take] at this
      omega
    simp only [ferry_ferryref09_count_l1, ferry_ferryref09_count_j1]
    (repeat' (first | (simp only [wp, extractV, exists_eq_left', if_true, if_false, ite_true, ite_false, reduceIte, Nat.reduceAdd, Nat.reduceLT, Nat.reduceLeDiff, Nat.reduceEqDiff, hx.len, List.length_map, ltT hlt, h2, addN hlt hl, ir_at, addN (show (l.take i).count p < l.length by omega) hl]) | (with_reducible refine Run.gC ?_ ?_ <;> intro hb <;> try simp only [hb]) | (with_reducible refine Run.gG ?_ ?_ <;> intro hb <;> try simp only [hb]) | (with_reducible refine Run.gQ ?_ ?_ <;> intro hb <;> try simp only [hb])))
    · have hb' : l[i] = p := by simpa using hb
      rw [if_pos hb'] at hc
      exact ⟨hlt, by rw [hc]⟩
    · have hb' : l[i] ≠ p := by simpa using hb
      rw [if_neg hb'] at hc
      exact ⟨hlt, by rw [hc]; rfl⟩
  · simp only [ferry_ferryref09_count_l1]
    (repeat' (first | (simp only [wp, extractV, exists_eq_left', if_true, if_false, ite_true, ite_false, reduceIte, Nat.reduceAdd, Nat.reduceLT, Nat.reduceLeDiff, Nat.reduceEqDiff, hx.len, List.length_map, ltF hlt]) | (with_reducible refine Run.gC ?_ ?_ <;> intro hb <;> try simp only [hb]) | (with_reducible refine Run.gG ?_ ?_ <;> intro hb <;> try simp only [hb]) | (with_reducible refine Run.gQ ?_ ?_ <;> intro hb <;> try simp only [hb])))
    rw [take_all (by omega)]

theorem ahead_spec (n : Nat) (a b : Tm) : callV (cfg G) (sem (cfg G) (n + 1)) 80 [.agg (tmRow a), .agg (tmRow b)] = M.ret (.bool (decide (before a b))) := by
  refine callV_pure0 rfl rfl rfl ?_
  rw [ferry_ferryref09_ahead_eq]
  simp only [ferry_ferryref09_ahead, tmRow]
  (repeat' (first | (simp only [wp, extractV, exists_eq_left', if_true, if_false, ite_true, ite_false, reduceIte, Nat.reduceAdd, Nat.reduceLT, Nat.reduceLeDiff, Nat.reduceEqDiff]) | (with_reducible refine Run.gC ?_ ?_ <;> intro hb <;> try simp only [hb]) | (with_reducible refine Run.gG ?_ ?_ <;> intro hb <;> try simp only [hb]) | (with_reducible refine Run.gQ ?_ ?_ <;> intro hb <;> try simp only [hb])))
  all_goals ((try simp only [decide_eq_true_eq, decide_eq_false_iff_not, beq_iff_eq, beq_eq_false_iff_ne, ne_eq, bne_iff_ne, nbeq_e, Bool.true_eq_false, Bool.false_eq_true, iff_false, iff_true, Bool.not_eq_true', Bool.not_eq_false'] at *); refine boolI ?_; (try simp only [decide_eq_true_eq, decide_eq_false_iff_not, beq_iff_eq, beq_eq_false_iff_ne, ne_eq, bne_iff_ne, nbeq_e, Bool.true_eq_false, Bool.false_eq_true, iff_false, iff_true, Bool.not_eq_true', Bool.not_eq_false', true_iff, false_iff]); (try unfold before); (try omega))

theorem rrow_iff {t : Tab} {i : Int} {p : Pr} : RRow t i p ↔ reg0 p = 0 ∧ (0 ≤ p.state ∧ p.state ≤ 3) ∧ (0 ≤ p.prio ∧ p.prio ≤ 255) ∧ (0 ≤ p.wait ∧ p.wait ≤ 4) ∧ (p.wait ≠ 0 ↔ p.state = 2) ∧ 0 ≤ p.obj ∧ (p.wait ≤ 1 → p.obj = 0) ∧
    cnt t.ts i ≤ 1 ∧ (cnt t.ts i = 1 → p.state = 2) ∧ (cnt t.ts i = 0 → p.wait ≠ 1) ∧ (p.state = 1 → t.q.count i = 1) ∧ (p.state ≠ 1 → t.q.count i = 0) := by
  unfold RRow
  rw [reg0_iff]
  by_cases h : p.state = 1
  · simp [h]
  · simp [h]
theorem rgoodProc_spec (n : Nat) {x y z : V} {t : Tab} (h : IsTab x y z t) {i : Nat} (hi : i < t.ps.length) :
    callV (cfg G) (sem (cfg G) (n + 2)) 82 [.agg [x, y, z], .int .i64 (i : Nat)] = M.ret (.bool (decide (RRow t (i : Nat) t.ps[i]))) := by
  refine callV_pure0 rfl (by simp [h.closed, cI]) rfl ?_
  rw [ferry_ferryref09_goodProc_eq]
  have h2 := h.p.idx (k := .i64) (i := i) (by simpa using hi)
  simp only [List.getElem_map] at h2
  have hw := h.wp _ (List.getElem_mem hi)
  generalize hp : t.ps[i] = p at *
  simp only [ferry_ferryref09_goodProc, ferry_ferryref09_goodProc_j1]
  (repeat' (first | (simp only [wp, extractV, exists_eq_left', if_true, if_false, ite_true, ite_false, reduceIte, Nat.reduceAdd, Nat.reduceLT, Nat.reduceLeDiff, Nat.reduceEqDiff, aidx0, h2, pr_reg0 hw, pr_state hw, pr_prio hw, pr_wait hw, pr_obj hw, pr_len hw, pr_take hw, timers_spec _ h, count_spec _ h.q h.big.2.1]) | (with_reducible refine Run.gC ?_ ?_ <;> intro hb <;> try simp only [hb]) | (with_reducible refine Run.gG ?_ ?_ <;> intro hb <;> try simp only [hb]) | (with_reducible refine Run.gQ ?_ ?_ <;> intro hb <;> try simp only [hb])))
  all_goals ((try simp only [decide_eq_true_eq, decide_eq_false_iff_not, beq_iff_eq, beq_eq_false_iff_ne, ne_eq, bne_iff_ne, nbeq_e, Bool.true_eq_false, Bool.false_eq_true, iff_false, iff_true, Bool.not_eq_true', Bool.not_eq_false'] at *); refine boolI ?_; (try simp only [decide_eq_true_eq, decide_eq_false_iff_not, beq_iff_eq, beq_eq_false_iff_ne, ne_eq, bne_iff_ne, nbeq_e, Bool.true_eq_false, Bool.false_eq_true, iff_false, iff_true, Bool.not_eq_true', Bool.not_eq_false', true_iff, false_iff]); (try rw [rrow_iff]); (try omega))

instance (t : Tab) : Decidable (ROk t) := decidable_of_iff _ (ROk_iff t).symm
theorem ref_good_spec (n : Nat) {x y z : V} {t : Tab} (h : IsTab x y z t) : callV (cfg G) (sem (cfg G) (n + 3)) 48 [.agg [x, y, z]] = M.ret (.bool (decide (TabOk t))) := by
  have e : decide (TabOk t) = decide (ROk t) := by
    rw [decide_eq_decide]; exact (ROk_iff t).symm
  rw [e]
  refine callV_pure0 rfl (by simp [h.closed]) rfl ?_
  rw [ferry_ferryref09_Good_eq]
  by_cases hfew : t.ps.length ≤ 8 ∧ t.q.length ≤ 8 ∧ t.ts.length ≤ 8
  · have d1 : decide ((8 : Int) < (t.ps.length : Int)) = false := by simp; omega
    have d2 : decide ((8 : Int) < (t.q.length : Int)) = false := by simp; omega
    have d3 : decide ((8 : Int) < (t.ts.length : Int)) = false := by simp; omega
    simp only [ferry_ferryref09_Good]
    (repeat' (first | (simp only [wp, extractV, exists_eq_left', if_true, if_false, ite_true, ite_false, reduceIte, Nat.reduceAdd, Nat.reduceLT, Nat.reduceLeDiff, Nat.reduceEqDiff, h.p.len, h.q.len, h.s.len, List.length_map, d1, d2, d3]) | (with_reducible refine Run.gC ?_ ?_ <;> intro hb <;> try simp only [hb]) | (with_reducible refine Run.gG ?_ ?_ <;> intro hb <;> try simp only [hb]) | (with_reducible refine Run.gQ ?_ ?_ <;> intro hb <;> try simp only [hb])))
    refine Run.loop (N := t.ps.length) (fun i s H => s = [.bool false, .int .i64 (i : Nat)] ∧ H.floor = 0 ∧ H.next = 1 ∧ H.blk 0 = some ⟨3, [[x, y, z]]⟩ ∧ ∀ (j : Nat) p, j < i → t.ps[j]? = some p → RRow t j p)
      ⟨rfl, rfl, rfl, rfl, by simp⟩ ?_
    rintro i s H hi ⟨rfl, hf, hn, hb0, hall⟩
    by_cases hlt : i < t.ps.length
    · have hrow : ROk t → RRow t (i : Nat) t.ps[i] := fun g => g.ps i _ (List.getElem?_eq_getElem hlt)
      simp only [ferry_ferryref09_Good_l1]
      (repeat' (first | (simp only [wp, extractV, exists_eq_left', if_true, if_false, ite_true, ite_false, reduceIte, Nat.reduceAdd, Nat.reduceLT, Nat.reduceLeDiff, Nat.reduceEqDiff, h.p.len, List.length_map, ltT hlt, addN hlt h.big.1, hb0, rgoodProc_spec n h hlt]) | (with_reducible refine Run.gC ?_ ?_ <;> intro hb <;> try simp only [hb]) | (with_reducible refine Run.gG ?_ ?_ <;> intro hb <;> try simp only [hb]) | (with_reducible refine Run.gQ ?_ ?_ <;> intro hb <;> try simp only [hb])))
      · refine ⟨hlt, hf, hn, fun j p hj hp => ?_⟩
        rcases Nat.lt_succ_iff_lt_or_eq.1 hj with h' | rfl
        · exact hall j p h' hp
        · rw [List.getElem?_eq_getElem hlt] at hp
          cases hp
          exact of_decide_eq_true hb
      · exact boolF fun g => of_decide_eq_false hb (hrow g)
    · simp only [ferry_ferryref09_Good_l1]
      (repeat' (first | (simp only [wp, extractV, exists_eq_left', if_true, if_false, ite_true, ite_false, reduceIte, Nat.reduceAdd, Nat.reduceLT, Nat.reduceLeDiff, Nat.reduceEqDiff, h.p.len, List.length_map, ltF hlt, hb0]) | (with_reducible refine Run.gC ?_ ?_ <;> intro hb <;> try simp only [hb]) | (with_reducible refine Run.gG ?_ ?_ <;> intro hb <;> try simp only [hb]) | (with_reducible refine Run.gQ ?_ ?_ <;> intro hb <;> try simp only [hb])))
      have hps : ∀ (j : Nat) p, t.ps[j]? = some p → RRow t j p := fun j p hp => hall j p (by have := (List.getElem?_eq_some_iff.1 hp).1; omega) hp
      refine Run.loop (N := t.q.length) (fun i s H => s = [.bool false, .int .i64 (i : Nat)] ∧ H.floor = 0 ∧ H.next = 1 ∧ H.blk 0 = some ⟨3, [[x, y, z]]⟩ ∧ ∀ m ∈ t.q.take i, 0 ≤ m ∧ m < t.ps.length)
        ⟨rfl, hf, hn, hb0, by simp⟩ ?_
      rintro i s H hi ⟨rfl, hf, hn, hb0, hq⟩
      by_cases hlt : i < t.q.length
      · have h2 := h.q.idx (k := .i64) (i := i) (by simpa using hlt)
        simp only [List.getElem_map] at h2
        have hm : t.q[i] ∈ t.q := List.getElem_mem hlt
        simp only [ferry_ferryref09_Good_l2]
        (repeat' (first | (simp only [wp, extractV, exists_eq_left', if_true, if_false, ite_true, ite_false, reduceIte, Nat.reduceAdd, Nat.reduceLT, Nat.reduceLeDiff, Nat.reduceEqDiff, h.p.len, h.q.len, List.length_map, ltT hlt, addN hlt h.big.2.1, hb0, h2, ir_at]) | (with_reducible refine Run.gC ?_ ?_ <;> intro hb <;> try simp only [hb]) | (with_reducible refine Run.gG ?_ ?_ <;> intro hb <;> try simp only [hb]) | (with_reducible refine Run.gQ ?_ ?_ <;> intro hb <;> try simp only [hb])))
        · refine boolF fun g => ?_
          have := g.q _ hm
          have := of_decide_eq_true hb
          omega
        · refine boolF fun g => ?_
          have := g.q _ hm
          have := of_decide_eq_true hb
          omega
        · refine ⟨hlt, hf, hn, fun m hm => ?_⟩
          rw [take_snoc hlt] at hm
          rcases List.mem_append.1 hm with h' | h'
          · exact hq m h'
          · rw [List.mem_singleton] at h'
            subst h'
            simp only [decide_eq_false_iff_not] at *
            omega
      · simp only [ferry_ferryref09_Good_l2]
        (repeat' (first | (simp only [wp, extractV, exists_eq_left', if_true, if_false, ite_true, ite_false, reduceIte, Nat.reduceAdd, Nat.reduceLT, Nat.reduceLeDiff, Nat.reduceEqDiff, h.q.len, List.length_map, ltF hlt, hb0]) | (with_reducible refine Run.gC ?_ ?_ <;> intro hb <;> try simp only [hb]) | (with_reducible refine Run.gG ?_ ?_ <;> intro hb <;> try simp only [hb]) | (with_reducible refine Run.gQ ?_ ?_ <;> intro hb <;> try simp only [hb])))
        rw [take_all (by omega)] at hq
        refine Run.loop (N := t.ts.length) (fun i s H => s = [.bool false, .int .i64 (i : Nat)] ∧ H.floor = 0 ∧ 1 ≤ H.next ∧ H.blk 0 = some ⟨3, [[x, y, z]]⟩ ∧ (∀ m ∈ t.ts.take i, right t.ps.length m) ∧ Chn (t.ts.take i))
          ⟨rfl, hf, by omega, hb0, by simp, .nil⟩ ?_
        rintro i s H hi ⟨rfl, hf, hn, hb0, hr, hc⟩
        by_cases hlt : i < t.ts.length
        · have h2 := h.s.idx (k := .i64) (i := i) (by simpa using hlt)
          simp only [List.getElem_map] at h2
          have hne : ¬ 0 = H.next := by omega
          have hlt1 : 0 < H.next := by omega
          have hm : t.ts[i] ∈ t.ts := List.getElem_mem hlt
          have hno : ROk t → right t.ps.length t.ts[i] ∧ ∀ a, (t.ts.take i).getLast? = some a → before a t.ts[i] := fun g => by
            have := g.chn.take (i + 1)
            rw [take_snoc hlt, Chn_snoc] at this
            exact ⟨g.ts _ hm, this.2⟩
          have hyes : right t.ps.length t.ts[i] → (∀ a, (t.ts.take i).getLast? = some a → before a t.ts[i]) → i < t.ts.length ∧ (∀ m ∈ t.ts.take (i + 1), right t.ps.length m) ∧ Chn (t.ts.take (i + 1)) := fun g1 g2 => by
            rw [take_snoc hlt]
            refine ⟨hlt, fun m hm => ?_, .snoc hc g2⟩
            rcases List.mem_append.1 hm with h' | h'
            · exact hr m h'
            · rw [List.mem_singleton] at h'; subst h'; exact g1
          have hbad : ¬ right t.ps.length t.ts[i] → V.bool false = V.bool (decide (ROk t)) := fun g => boolF fun g' => g (hno g').1
          rcases Nat.eq_zero_or_pos i with h0 | h0
          · have hgt : decide ((0 : Int) < (i : Int)) = false := by simp; omega
            simp only [ferry_ferryref09_Good_l3]
            (repeat' (first | (simp only [wp, extractV, exists_eq_left', if_true, if_false, ite_true, ite_false, reduceIte, Nat.reduceAdd, Nat.reduceLT, Nat.reduceLeDiff, Nat.reduceEqDiff, h.p.len, h.s.len, List.length_map, ltT hlt, addN hlt h.big.2.2, hb0, h2, tm_len, tm_take, tm_proc, tm_due, hf, hne, hlt1, hgt]) | (with_reducible refine Run.gC ?_ ?_ <;> intro hb <;> try simp only [hb]) | (with_reducible refine Run.gG ?_ ?_ <;> intro hb <;> try simp only [hb]) | (with_reducible refine Run.gQ ?_ ?_ <;> intro hb <;> try simp only [hb])))
            · exact hbad fun g => by have := of_decide_eq_true hb; have := g.1; omega
            · exact hbad fun g => by have := of_decide_eq_true hb; have := g.2.1; omega
            · exact hbad fun g => by have := of_decide_eq_true hb; have := g.2.2.1; omega
            · exact hbad fun g => by have := of_decide_eq_true hb; have := g.2.2.2; omega
            · refine hyes ?_ fun a ha => ?_
              · unfold right
                simp only [decide_eq_false_iff_not] at *
                omega
              · subst h0
                simp at ha
          · have hgt : decide ((0 : Int) < (i : Int)) = true := by simpa using h0
            have h3 := h.s.idx (k := .i64) (i := i - 1) (by simp; omega)
            have hlast : (t.ts.take i).getLast? = some t.ts[i - 1] := by
              have := last_take (l := t.ts) (i := i - 1) (by omega)
              rwa [show i - 1 + 1 = i by omega] at this
            simp only [List.getElem_map, Int.natCast_sub h0, Int.natCast_one] at h3
            have hsub : arithV .sub (.int .i64 (i : Int)) (.int .i64 1) = some (.int .i64 ((i : Int) - 1)) := arith_sub (by omega) (by have := h.big.2.2; unfold big at this; omega)
            simp only [ferry_ferryref09_Good_l3]
            (repeat' (first | (simp only [wp, extractV, exists_eq_left', if_true, if_false, ite_true, ite_false, reduceIte, Nat.reduceAdd, Nat.reduceLT, Nat.reduceLeDiff, Nat.reduceEqDiff, h.p.len, h.s.len, List.length_map, ltT hlt, addN hlt h.big.2.2, hb0, h2, tm_len, tm_take, tm_proc, tm_due, hf, hne, hlt1, hgt, h3, hsub, ahead_spec]) | (with_reducible refine Run.gC ?_ ?_ <;> intro hb <;> try simp only [hb]) | (with_reducible refine Run.gG ?_ ?_ <;> intro hb <;> try simp only [hb]) | (with_reducible refine Run.gQ ?_ ?_ <;> intro hb <;> try simp only [hb])))
            · exact hbad fun g => by have := of_decide_eq_true hb; have := g.1; omega
            · exact hbad fun g => by have := of_decide_eq_true hb; have := g.2.1; omega
            · exact hbad fun g => by have := of_decide_eq_true hb; have := g.2.2.1; omega
            · exact hbad fun g => by have := of_decide_eq_true hb; have := g.2.2.2; omega
            · have hb' := of_decide_eq_true hb
              refine hyes ?_ fun a ha => ?_
              · unfold right
                simp only [decide_eq_false_iff_not] at *
                omega
              · rw [hlast] at ha
                cases ha
                exact hb'
            · exact boolF fun g => of_decide_eq_false hb ((hno g).2 _ hlast)
        · simp only [ferry_ferryref09_Good_l3]
          (repeat' (first | (simp only [wp, extractV, exists_eq_left', if_true, if_false, ite_true, ite_false, reduceIte, Nat.reduceAdd, Nat.reduceLT, Nat.reduceLeDiff, Nat.reduceEqDiff, h.s.len, List.length_map, ltF hlt, hb0]) | (with_reducible refine Run.gC ?_ ?_ <;> intro hb <;> try simp only [hb]) | (with_reducible refine Run.gG ?_ ?_ <;> intro hb <;> try simp only [hb]) | (with_reducible refine Run.gQ ?_ ?_ <;> intro hb <;> try simp only [hb])))
          rw [take_all (by omega)] at hr hc
          simp [show ROk t from ⟨hfew, hps, hq, hr, hc⟩]
  · have hbad : V.bool false = V.bool (decide (ROk t)) := boolF fun g => hfew g.few
    by_cases h1 : 8 < t.ps.length
    · have d1 : decide ((8 : Int) < (t.ps.length : Int)) = true := by simp; omega
      simp only [ferry_ferryref09_Good]
      (repeat' (first | (simp only [wp, extractV, exists_eq_left', if_true, if_false, ite_true, ite_false, reduceIte, Nat.reduceAdd, Nat.reduceLT, Nat.reduceLeDiff, Nat.reduceEqDiff, h.p.len, h.q.len, h.s.len, List.length_map, d1]) | (with_reducible refine Run.gC ?_ ?_ <;> intro hb <;> try simp only [hb]) | (with_reducible refine Run.gG ?_ ?_ <;> intro hb <;> try simp only [hb]) | (with_reducible refine Run.gQ ?_ ?_ <;> intro hb <;> try simp only [hb])))
      exact hbad
    · have d1 : decide ((8 : Int) < (t.ps.length : Int)) = false := by simp; omega
      by_cases h2 : 8 < t.q.length
      · have d2 : decide ((8 : Int) < (t.q.length : Int)) = true := by simp; omega
        simp only [ferry_ferryref09_Good]
        (repeat' (first | (simp only [wp, extractV, exists_eq_left', if_true, if_false, ite_true, ite_false, reduceIte, Nat.reduceAdd, Nat.reduceLT, Nat.reduceLeDiff, Nat.reduceEqDiff, h.p.len, h.q.len, h.s.len, List.length_map, d1, d2]) | (with_reducible refine Run.gC ?_ ?_ <;> intro hb <;> try simp only [hb]) | (with_reducible refine Run.gG ?_ ?_ <;> intro hb <;> try simp only [hb]) | (with_reducible refine Run.gQ ?_ ?_ <;> intro hb <;> try simp only [hb])))
        exact hbad
      · have d2 : decide ((8 : Int) < (t.q.length : Int)) = false := by simp; omega
        have d3 : decide ((8 : Int) < (t.ts.length : Int)) = true := by simp; omega
        simp only [ferry_ferryref09_Good]
        (repeat' (first | (simp only [wp, extractV, exists_eq_left', if_true, if_false, ite_true, ite_false, reduceIte, Nat.reduceAdd, Nat.reduceLT, Nat.reduceLeDiff, Nat.reduceEqDiff, h.p.len, h.q.len, h.s.len, List.length_map, d1, d2, d3]) | (with_reducible refine Run.gC ?_ ?_ <;> intro hb <;> try simp only [hb]) | (with_reducible refine Run.gG ?_ ?_ <;> intro hb <;> try simp only [hb]) | (with_reducible refine Run.gQ ?_ ?_ <;> intro hb <;> try simp only [hb])))
        exact hbad
end Go.Fv.Tr
