/-
  What the functions of the layer 9 answer: Good and Pick. By an AI agent; no person has read it.
-/
import Derived.Test.YtjjiphigolegbaaDoorFvSpA
set_option linter.unusedVariables false
set_option linter.unusedSimpArgs false
set_option linter.unusedSectionVars false
/-! What the functions of the layer 9 answer: Good and Pick. -/
namespace Go.Fv.Tr
open Go Go.Fv Go.Fv.Pl Go.Proofs
set_option linter.unusedSimpArgs false
set_option linter.unusedVariables false
variable {G : Nat → Option (List V)}

theorem ready_good_spec (hG : Errs G) (n : Nat) {x y z : V} {t : Tab} (h : IsTab x y z t) : callV (cfg G) (sem (cfg G) (n + 6)) 42 [.agg [x, y, z]] = M.ret (.bool (decide (TabOk t))) := by
  refine callV_pure0 rfl (by simp [h.closed]) rfl ?_
  rw [ferry_ready_Good_eq]
  by_cases h8 : t.ps.length ≤ 8
  · have e0 : decide ((8 : Int) < (t.ps.length : Int)) = false := by simp; omega
    by_cases hts : TsOk t.ps.length t.ts
    · have e1 : orNil (TsOk t.ps.length t.ts) 0 = .nili := if_pos hts
      simp only [ferry_ready_Good]
      (repeat' (first | (simp only [wp, extractV, exists_eq_left', if_true, if_false, ite_true, ite_false, reduceIte, Nat.reduceAdd, Nat.reduceLT, Nat.reduceLeDiff, Nat.reduceEqDiff, h.p.len, List.length_map, e0, check_spec hG _ h.s h.big.2.2 h8, e1]) | (with_reducible refine Run.gC ?_ ?_ <;> intro hb <;> try simp only [hb]) | (with_reducible refine Run.gG ?_ ?_ <;> intro hb <;> try simp only [hb]) | (with_reducible refine Run.gQ ?_ ?_ <;> intro hb <;> try simp only [hb])))
      refine Run.loop (N := t.ps.length) (fun i s H => s = [.bool false, .int .i64 (i : Nat)] ∧ H.floor = 0 ∧ 1 ≤ H.next ∧ H.blk 0 = some ⟨3, [[x, y, z]]⟩ ∧ ∀ j p, j < i → t.ps[j]? = some p → RowOk t.ts (j : Nat) p)
        ⟨rfl, rfl, by simp [Heap.add_next], by simp [Heap.add_blk, Heap.empty_next], by simp⟩ ?_
      rintro i s H hi ⟨rfl, hf, hn, hb0, hall⟩
      by_cases hlt : i < t.ps.length
      · have h2 := h.p.idx (k := .i64) (i := i) (by simpa using hlt)
        simp only [List.getElem_map] at h2
        have hw := h.wp _ (List.getElem_mem hlt)
        have hne : ¬ 0 = H.next := by omega
        have hlt1 : 0 < H.next := by omega
        have hrow : TabOk t → RowOk t.ts (i : Nat) t.ps[i] := fun g => g.ps i _ (List.getElem?_eq_getElem hlt)
        have hpr : decide (PrOk t.ps[i]) = true → PrOk t.ps[i] := of_decide_eq_true
        have hs : RowOk t.ts (i : Nat) t.ps[i] → i < t.ps.length ∧ ∀ j p, j < i + 1 → t.ps[j]? = some p → RowOk t.ts (j : Nat) p := fun g => by
          refine ⟨hlt, fun j p hj hp => ?_⟩
          rcases Nat.lt_succ_iff_lt_or_eq.1 hj with h' | rfl
          · exact hall j p h' hp
          · rw [List.getElem?_eq_getElem hlt] at hp
            cases hp
            exact g
        simp only [ferry_ready_Good_l1]
        (repeat' (first | (simp only [wp, extractV, exists_eq_left', if_true, if_false, ite_true, ite_false, reduceIte, Nat.reduceAdd, Nat.reduceLT, Nat.reduceLeDiff, Nat.reduceEqDiff, ltT hlt, h2, addN hlt h.big.1, hf, hb0, pr_len hw, pr_take hw, pr_state hw, pr_wait hw, hne, hlt1, find_spec _ h.s h.big.2.2, goodProc_spec _ hw]) | (with_reducible refine Run.gC ?_ ?_ <;> intro hb <;> try simp only [hb]) | (with_reducible refine Run.gG ?_ ?_ <;> intro hb <;> try simp only [hb]) | (with_reducible refine Run.gQ ?_ ?_ <;> intro hb <;> try simp only [hb])))
        · have hb' : t.ps[i].state = 2 := by simpa using hb
          exact hs ⟨hpr (by assumption), fun _ => hb', fun g => absurd (of_decide_eq_true (by assumption)) g⟩
        · refine boolF fun g => ?_
          have := (hrow g).2.1 (of_decide_eq_true (by assumption))
          simp [this] at hb
        · refine boolF fun g => ?_
          have hb' : t.ps[i].wait = 1 := by simpa using hb
          exact (hrow g).2.2 (of_decide_eq_false (by assumption)) hb'
        · have hb' : t.ps[i].wait ≠ 1 := by simpa using hb
          exact hs ⟨hpr (by assumption), fun g => absurd g (of_decide_eq_false (by assumption)), fun _ => hb'⟩
        · exact boolF fun g => of_decide_eq_false hb (hrow g).1
      · simp only [ferry_ready_Good_l1]
        (repeat' (first | (simp only [wp, extractV, exists_eq_left', if_true, if_false, ite_true, ite_false, reduceIte, Nat.reduceAdd, Nat.reduceLT, Nat.reduceLeDiff, Nat.reduceEqDiff, ltF hlt, hb0, goodQueue_spec _ h h8]) | (with_reducible refine Run.gC ?_ ?_ <;> intro hb <;> try simp only [hb]) | (with_reducible refine Run.gG ?_ ?_ <;> intro hb <;> try simp only [hb]) | (with_reducible refine Run.gQ ?_ ?_ <;> intro hb <;> try simp only [hb])))
        refine boolE ⟨fun g => ⟨h8, hts, fun i p hp => hall i p ?_ hp, g⟩, fun g => g.q⟩
        have := (List.getElem?_eq_some_iff.1 hp).1
        omega
    · have e1 : orNil (TsOk t.ps.length t.ts) 0 = errV 0 := if_neg hts
      simp only [ferry_ready_Good]
      (repeat' (first | (simp only [wp, extractV, exists_eq_left', if_true, if_false, ite_true, ite_false, reduceIte, Nat.reduceAdd, Nat.reduceLT, Nat.reduceLeDiff, Nat.reduceEqDiff, h.p.len, List.length_map, e0, check_spec hG _ h.s h.big.2.2 h8, e1, eq_err]) | (with_reducible refine Run.gC ?_ ?_ <;> intro hb <;> try simp only [hb]) | (with_reducible refine Run.gG ?_ ?_ <;> intro hb <;> try simp only [hb]) | (with_reducible refine Run.gQ ?_ ?_ <;> intro hb <;> try simp only [hb])))
      exact boolF fun g => hts g.ts
  · have e0 : decide ((8 : Int) < (t.ps.length : Int)) = true := by simp; omega
    simp only [ferry_ready_Good]
    (repeat' (first | (simp only [wp, extractV, exists_eq_left', if_true, if_false, ite_true, ite_false, reduceIte, Nat.reduceAdd, Nat.reduceLT, Nat.reduceLeDiff, Nat.reduceEqDiff, h.p.len, List.length_map, e0]) | (with_reducible refine Run.gC ?_ ?_ <;> intro hb <;> try simp only [hb]) | (with_reducible refine Run.gG ?_ ?_ <;> intro hb <;> try simp only [hb]) | (with_reducible refine Run.gQ ?_ ?_ <;> intro hb <;> try simp only [hb])))
    exact boolF fun g => h8 g.few

theorem best_snoc (f : Int → Int) (b n : Int) (l : List Int) : best f b (l ++ [n]) = if f n > f (best f b l) then n else best f b l := by
  simp [best, List.foldl_append]
def pickV' (t : Tab) : V :=
  if TabOk t then (match t.q with | [] => .tuple [.int .i64 0, errV 1] | b :: _ => .tuple [.int .i64 (best (prio t.ps) b t.q), .nili]) else .tuple [.int .i64 0, errV 0]
theorem pick_spec (hG : Errs G) (n : Nat) {x y z : V} {t : Tab} (h : IsTab x y z t) : callV (cfg G) (sem (cfg G) (n + 7)) 18 [.agg [x, y, z]] = M.ret (pickV' t) := by
  refine callV_pure0 rfl (by simp [h.closed]) (by unfold pickV'; split <;> (try split) <;> rfl) ?_
  rw [ferry_ready_Pick_eq]
  by_cases hok : TabOk t
  · cases hq : t.q with
    | nil =>
      have hlen : ((t.q.length : Int) == 0) = true := by simp [hq]
      simp only [ferry_ready_Pick]
      (repeat' (first | (simp only [wp, extractV, exists_eq_left', if_true, if_false, ite_true, ite_false, reduceIte, Nat.reduceAdd, Nat.reduceLT, Nat.reduceLeDiff, Nat.reduceEqDiff, ready_good_spec hG _ h, decide_eq_true hok, h.q.len, List.length_map, glob_at hG.none, hlen]) | (with_reducible refine Run.gC ?_ ?_ <;> intro hb <;> try simp only [hb]) | (with_reducible refine Run.gG ?_ ?_ <;> intro hb <;> try simp only [hb]) | (with_reducible refine Run.gQ ?_ ?_ <;> intro hb <;> try simp only [hb])))
      simp [pickV', hok, hq]
    | cons b q =>
      have h0 := h.q.idx (k := .i64) (i := 0) (by simp [hq])
      have e0 : t.q[0]'(by simp [hq]) = b := by simp [hq]
      simp only [List.getElem_map, Int.natCast_zero, e0] at h0
      have hlen : ((t.q.length : Int) == 0) = false := by simp [hq]; omega
      have hbq : b ∈ t.q := by simp [hq]
      have atq : ∀ m ∈ t.q, ∃ p, at? t.ps m = some p ∧ prio t.ps m = p.prio := fun m hm => by
        have := hok.q.1 m hm
        unfold isReady at this
        obtain ⟨p, hp, _⟩ := Option.map_eq_some_iff.1 this
        exact ⟨p, hp, by simp [prio, hp]⟩
      simp only [ferry_ready_Pick]
      (repeat' (first | (simp only [wp, extractV, exists_eq_left', if_true, if_false, ite_true, ite_false, reduceIte, Nat.reduceAdd, Nat.reduceLT, Nat.reduceLeDiff, Nat.reduceEqDiff, ready_good_spec hG _ h, decide_eq_true hok, h.q.len, List.length_map, h0, hlen, ir_at]) | (with_reducible refine Run.gC ?_ ?_ <;> intro hb <;> try simp only [hb]) | (with_reducible refine Run.gG ?_ ?_ <;> intro hb <;> try simp only [hb]) | (with_reducible refine Run.gQ ?_ ?_ <;> intro hb <;> try simp only [hb])))
      refine Run.loop (N := t.q.length) (fun i s H => s = [.int .i64 (best (prio t.ps) b (t.q.take i)), .int .i64 (i : Nat)] ∧ H.floor = 0 ∧ H.blk 0 = some ⟨3, [[x, y, z]]⟩)
        ⟨rfl, rfl, by simp [Heap.add_blk, Heap.empty_next]⟩ ?_
      rintro i s H hi ⟨rfl, hf, hb0⟩
      by_cases hlt : i < t.q.length
      · have h2 := h.q.idx (k := .i64) (i := i) (by simpa using hlt)
        simp only [List.getElem_map] at h2
        obtain ⟨p, hp, ep⟩ := atq _ (List.getElem_mem hlt)
        have hbm : best (prio t.ps) b (t.q.take i) ∈ t.q := by
          rcases best_mem (prio t.ps) (t.q.take i) b with g | g
          · rw [g]; exact hbq
          · exact List.mem_of_mem_take g
        obtain ⟨p', hp', ep'⟩ := atq _ hbm
        obtain ⟨i1, w1⟩ := h.at hp
        obtain ⟨i2, w2⟩ := h.at hp'
        have hbest := best_snoc (prio t.ps) b t.q[i] (t.q.take i)
        rw [← take_snoc hlt, ep, ep'] at hbest
        simp only [ferry_ready_Pick_l1]
        (repeat' (first | (simp only [wp, extractV, exists_eq_left', if_true, if_false, ite_true, ite_false, reduceIte, Nat.reduceAdd, Nat.reduceLT, Nat.reduceLeDiff, Nat.reduceEqDiff, ltT hlt, h2, addN hlt h.big.2.1, hf, hb0, ir_at, i1, i2, pr_prio w1, pr_prio w2]) | (with_reducible refine Run.gC ?_ ?_ <;> intro hb <;> try simp only [hb]) | (with_reducible refine Run.gG ?_ ?_ <;> intro hb <;> try simp only [hb]) | (with_reducible refine Run.gQ ?_ ?_ <;> intro hb <;> try simp only [hb])))
        · have hb' := of_decide_eq_true hb
          exact ⟨hlt, by rw [hbest, if_pos hb']⟩
        · have hb' := of_decide_eq_false hb
          exact ⟨hlt, by rw [hbest, if_neg hb']⟩
      · simp only [ferry_ready_Pick_l1]
        (repeat' (first | (simp only [wp, extractV, exists_eq_left', if_true, if_false, ite_true, ite_false, reduceIte, Nat.reduceAdd, Nat.reduceLT, Nat.reduceLeDiff, Nat.reduceEqDiff, ltF hlt]) | (with_reducible refine Run.gC ?_ ?_ <;> intro hb <;> try simp only [hb]) | (with_reducible refine Run.gG ?_ ?_ <;> intro hb <;> try simp only [hb]) | (with_reducible refine Run.gQ ?_ ?_ <;> intro hb <;> try simp only [hb])))
        rw [take_all (by omega)]
        simp [pickV', hok, hq]
  · simp only [ferry_ready_Pick]
    (repeat' (first | (simp only [wp, extractV, exists_eq_left', if_true, if_false, ite_true, ite_false, reduceIte, Nat.reduceAdd, Nat.reduceLT, Nat.reduceLeDiff, Nat.reduceEqDiff, ready_good_spec hG _ h, decide_eq_false hok, glob_at hG.state]) | (with_reducible refine Run.gC ?_ ?_ <;> intro hb <;> try simp only [hb]) | (with_reducible refine Run.gG ?_ ?_ <;> intro hb <;> try simp only [hb]) | (with_reducible refine Run.gQ ?_ ?_ <;> intro hb <;> try simp only [hb])))
    simp [pickV', hok]
end Go.Fv.Tr
