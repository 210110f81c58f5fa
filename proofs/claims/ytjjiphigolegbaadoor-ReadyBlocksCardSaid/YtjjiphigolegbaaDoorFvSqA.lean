/-
  What the functions of the layer 9 answer: Best. By an AI agent; no person has read it.
-/
import Derived.Test.YtjjiphigolegbaaDoorFvSpZ
set_option linter.unusedVariables false
set_option linter.unusedSimpArgs false
set_option linter.unusedSectionVars false
/-! What the functions of the layer 9 answer: Best. -/
namespace Go.Fv.Tr
open Go Go.Fv Go.Fv.Pl Go.Proofs
set_option linter.unusedSimpArgs false
set_option linter.unusedVariables false
variable {G : Nat → Option (List V)}

def bestV (t : Tab) (w o : Int) : V := if TabOk t then (match wt t.ps w o with | [] => .tuple [i64 0, errV 1] | b :: _ => .tuple [i64 (best (prio t.ps) b (wt t.ps w o)), .nili]) else .tuple [i64 0, errV 0]
def rbestV (t : Tab) (w o : Int) : V := if TabOk t then (match wt t.ps w o with | [] => .tuple [i64 0, i64 17] | b :: _ => .tuple [i64 (best (prio t.ps) b (wt t.ps w o)), i64 0]) else .tuple [i64 0, i64 9]

theorem wt_at {t : Tab} {w o : Int} : ∀ m ∈ wt t.ps w o, 0 ≤ m ∧ ∃ p, at? t.ps m = some p ∧ prio t.ps m = p.prio := fun m hm => by
  obtain ⟨p, hp, _⟩ := mem_wt.1 hm
  exact ⟨(at?_lt hp).1, p, hp, by simp [prio, hp]⟩

theorem best_spec (hG : Errs G) (n : Nat) {x y z : V} {t : Tab} (h : IsTab x y z t) (w o : Int) : callV (cfg G) (sem (cfg G) (n + 7)) 49 [.agg [x, y, z], .int .i64 w, .int .i64 o] = M.ret (bestV t w o) := by
  refine callV_pure0 rfl (by simp [h.closed, cI]) (by unfold bestV; split <;> (try split) <;> rfl) ?_
  rw [ferry_ready_Best_eq]
  by_cases hok : TabOk t
  · have sm := small_of hok
    obtain ⟨ws, ew, sw⟩ := (waiters_spec (G := G) (n + 5) h (by have := sm.p; omega) w o).eq rfl (by simp [h.closed, cI])
    have atq := wt_at (t := t) (w := w) (o := o)
    have wlen := (wt_wl (t := t) w o).len hok
    have e : bestV t w o = (match wt t.ps w o with | [] => .tuple [i64 0, errV 1] | b :: _ => .tuple [i64 (best (prio t.ps) b (wt t.ps w o)), .nili]) := if_pos hok
    rw [e]
    generalize wt t.ps w o = L at sw atq wlen ⊢
    cases hq : L with
    | nil =>
      have hlen : ((L.length : Int) == 0) = true := by simp [hq]
      simp only [ferry_ready_Best]
      (repeat' (first | (simp only [wp, extractV, exists_eq_left', if_true, if_false, ite_true, ite_false, reduceIte, Nat.reduceAdd, Nat.reduceLT, Nat.reduceLeDiff, Nat.reduceEqDiff, ready_good_spec hG _ h, decide_eq_true hok, ew, sw.len, List.length_map, glob_at hG.none, hlen]) | (with_reducible refine Run.gC ?_ ?_ <;> intro hb <;> try simp only [hb]) | (with_reducible refine Run.gG ?_ ?_ <;> intro hb <;> try simp only [hb]) | (with_reducible refine Run.gQ ?_ ?_ <;> intro hb <;> try simp only [hb])))
    | cons b q =>
      have h0 := sw.idx (k := .i64) (i := 0) (by simp [hq])
      have e0 : L[0]'(by simp [hq]) = b := by simp [hq]
      simp only [List.getElem_map, Int.natCast_zero, e0] at h0
      have hlen : ((L.length : Int) == 0) = false := by simp [hq]; omega
      have hbq : b ∈ L := by simp [hq]
      simp only [ferry_ready_Best]
      (repeat' (first | (simp only [wp, extractV, exists_eq_left', if_true, if_false, ite_true, ite_false, reduceIte, Nat.reduceAdd, Nat.reduceLT, Nat.reduceLeDiff, Nat.reduceEqDiff, ready_good_spec hG _ h, decide_eq_true hok, ew, sw.len, List.length_map, h0, hlen, ir_at]) | (with_reducible refine Run.gC ?_ ?_ <;> intro hb <;> try simp only [hb]) | (with_reducible refine Run.gG ?_ ?_ <;> intro hb <;> try simp only [hb]) | (with_reducible refine Run.gQ ?_ ?_ <;> intro hb <;> try simp only [hb])))
      refine Run.loop (N := L.length) (fun i s H => s = [.int .i64 (best (prio t.ps) b (L.take i)), .int .i64 (i : Nat)] ∧ H.floor = 0 ∧ H.blk 0 = some ⟨3, [[x, y, z]]⟩)
        ⟨rfl, rfl, by simp [Heap.add_blk, Heap.empty_next]⟩ ?_
      rintro i s H hi ⟨rfl, hf, hb0⟩
      by_cases hlt : i < L.length
      · have h2 := sw.idx (k := .i64) (i := i) (by simpa using hlt)
        simp only [List.getElem_map] at h2
        obtain ⟨_, p, hp, ep⟩ := atq _ (List.getElem_mem hlt)
        have hbm : best (prio t.ps) b (L.take i) ∈ L := by
          rcases best_mem (prio t.ps) (L.take i) b with g | g
          · rw [g]; exact hbq
          · exact List.mem_of_mem_take g
        obtain ⟨_, p', hp', ep'⟩ := atq _ hbm
        obtain ⟨i1, w1⟩ := h.at hp
        obtain ⟨i2, w2⟩ := h.at hp'
        have hbest := best_snoc (prio t.ps) b L[i] (L.take i)
        rw [← take_snoc hlt, ep, ep'] at hbest
        simp only [ferry_ready_Best_l1]
        (repeat' (first | (simp only [wp, extractV, exists_eq_left', if_true, if_false, ite_true, ite_false, reduceIte, Nat.reduceAdd, Nat.reduceLT, Nat.reduceLeDiff, Nat.reduceEqDiff, ltT hlt, h2, addN hlt (show L.length ≤ big by unfold big; omega), hf, hb0, ir_at, i1, i2, pr_prio w1, pr_prio w2]) | (with_reducible refine Run.gC ?_ ?_ <;> intro hb <;> try simp only [hb]) | (with_reducible refine Run.gG ?_ ?_ <;> intro hb <;> try simp only [hb]) | (with_reducible refine Run.gQ ?_ ?_ <;> intro hb <;> try simp only [hb])))
        · have hb' := of_decide_eq_true hb
          exact ⟨hlt, by rw [hbest, if_pos hb']⟩
        · have hb' := of_decide_eq_false hb
          exact ⟨hlt, by rw [hbest, if_neg hb']⟩
      · simp only [ferry_ready_Best_l1]
        (repeat' (first | (simp only [wp, extractV, exists_eq_left', if_true, if_false, ite_true, ite_false, reduceIte, Nat.reduceAdd, Nat.reduceLT, Nat.reduceLeDiff, Nat.reduceEqDiff, ltF hlt]) | (with_reducible refine Run.gC ?_ ?_ <;> intro hb <;> try simp only [hb]) | (with_reducible refine Run.gG ?_ ?_ <;> intro hb <;> try simp only [hb]) | (with_reducible refine Run.gQ ?_ ?_ <;> intro hb <;> try simp only [hb])))
        rw [take_all (by omega), hq]
  · simp only [ferry_ready_Best]
    (repeat' (first | (simp only [wp, extractV, exists_eq_left', if_true, if_false, ite_true, ite_false, reduceIte, Nat.reduceAdd, Nat.reduceLT, Nat.reduceLeDiff, Nat.reduceEqDiff, ready_good_spec hG _ h, decide_eq_false hok, glob_at hG.state]) | (with_reducible refine Run.gC ?_ ?_ <;> intro hb <;> try simp only [hb]) | (with_reducible refine Run.gG ?_ ?_ <;> intro hb <;> try simp only [hb]) | (with_reducible refine Run.gQ ?_ ?_ <;> intro hb <;> try simp only [hb])))
    simp [bestV, hok]

theorem rbest_spec (n : Nat) {x y z : V} {t : Tab} (h : IsTab x y z t) (w o : Int) : callV (cfg G) (sem (cfg G) (n + 4)) 46 [.agg [x, y, z], .int .i64 w, .int .i64 o] = M.ret (rbestV t w o) := by
  refine callV_pure0 rfl (by simp [h.closed, cI]) (by unfold rbestV; split <;> (try split) <;> rfl) ?_
  rw [ferry_ferryref09_Best_eq]
  by_cases hok : TabOk t
  · have sm := small_of hok
    obtain ⟨ws, ew, sw⟩ := (rwaiters_spec (G := G) (n + 2) h (by have := sm.p; omega) w o).eq rfl (by simp [h.closed, cI])
    have atq := wt_at (t := t) (w := w) (o := o)
    have wlen := (wt_wl (t := t) w o).len hok
    have e : rbestV t w o = (match wt t.ps w o with | [] => .tuple [i64 0, i64 17] | b :: _ => .tuple [i64 (best (prio t.ps) b (wt t.ps w o)), i64 0]) := if_pos hok
    rw [e]
    generalize wt t.ps w o = L at sw atq wlen ⊢
    have hbig : L.length ≤ big := by unfold big; omega
    simp only [ferry_ferryref09_Best]
    (repeat' (first | (simp only [wp, extractV, exists_eq_left', if_true, if_false, ite_true, ite_false, reduceIte, Nat.reduceAdd, Nat.reduceLT, Nat.reduceLeDiff, Nat.reduceEqDiff, ref_good_spec _ h, decide_eq_true hok, ew]) | (with_reducible refine Run.gC ?_ ?_ <;> intro hb <;> try simp only [hb]) | (with_reducible refine Run.gG ?_ ?_ <;> intro hb <;> try simp only [hb]) | (with_reducible refine Run.gQ ?_ ?_ <;> intro hb <;> try simp only [hb])))
    refine Run.loop (N := L.length) (fun i s H => s = [.int .i64 (if i = 0 then -1 else best (prio t.ps) (L.headD 0) (L.take i)), .int .i64 (i : Nat)] ∧ H.floor = 0 ∧ H.blk 0 = some ⟨3, [[x, y, z]]⟩)
      ⟨rfl, rfl, rfl⟩ ?_
    rintro i s H hi ⟨rfl, hf, hb0⟩
    by_cases hlt : i < L.length
    · have h2 := sw.idx (k := .i64) (i := i) (by simpa using hlt)
      simp only [List.getElem_map] at h2
      obtain ⟨p0, p, hp, ep⟩ := atq _ (List.getElem_mem hlt)
      obtain ⟨i1, w1⟩ := h.at hp
      rcases Nat.eq_zero_or_pos i with h0 | h0
      · subst h0
        have hneg : decide ((-1 : Int) < 0) = true := rfl
        have he : best (prio t.ps) (L.headD 0) (L.take (0 + 1)) = L[0] := by
          exact best_one _ hlt
        simp only [ferry_ferryref09_Best_l1, ferry_ferryref09_Best_j1]
        (repeat' (first | (simp only [wp, extractV, exists_eq_left', if_true, if_false, ite_true, ite_false, reduceIte, Nat.reduceAdd, Nat.reduceLT, Nat.reduceLeDiff, Nat.reduceEqDiff, sw.len, List.length_map, ltT hlt, addN hlt hbig, hb0, h2, ir_at, hneg]) | (with_reducible refine Run.gC ?_ ?_ <;> intro hb <;> try simp only [hb]) | (with_reducible refine Run.gG ?_ ?_ <;> intro hb <;> try simp only [hb]) | (with_reducible refine Run.gQ ?_ ?_ <;> intro hb <;> try simp only [hb])))
        exact ⟨hlt, by rw [he], hf⟩
      · have hne : ¬ i = 0 := by omega
        have hhd : L.headD 0 ∈ L := by
          cases hq : L with
          | nil => rw [hq] at hlt; simp at hlt
          | cons b q => simp
        have hbm : best (prio t.ps) (L.headD 0) (L.take i) ∈ L := by
          rcases best_mem (prio t.ps) (L.take i) (L.headD 0) with g | g
          · rw [g]; exact hhd
          · exact List.mem_of_mem_take g
        obtain ⟨q0, p', hp', ep'⟩ := atq _ hbm
        obtain ⟨i2, w2⟩ := h.at hp'
        have hbest := best_snoc (prio t.ps) (L.headD 0) L[i] (L.take i)
        rw [← take_snoc hlt, ep, ep'] at hbest
        have hneg : decide (best (prio t.ps) (L.headD 0) (L.take i) < 0) = false := decide_eq_false (by omega)
        simp only [ferry_ferryref09_Best_l1, ferry_ferryref09_Best_j1]
        (repeat' (first | (simp only [wp, extractV, exists_eq_left', if_true, if_false, ite_true, ite_false, reduceIte, Nat.reduceAdd, Nat.reduceLT, Nat.reduceLeDiff, Nat.reduceEqDiff, sw.len, List.length_map, ltT hlt, addN hlt hbig, hb0, h2, ir_at, if_neg hne, hneg, i1, i2, pr_prio w1, pr_prio w2]) | (with_reducible refine Run.gC ?_ ?_ <;> intro hb <;> try simp only [hb]) | (with_reducible refine Run.gG ?_ ?_ <;> intro hb <;> try simp only [hb]) | (with_reducible refine Run.gQ ?_ ?_ <;> intro hb <;> try simp only [hb])))
        · have hb' := of_decide_eq_true hb
          exact ⟨hlt, by rw [hbest, if_pos hb'], hf⟩
        · have hb' := of_decide_eq_false hb
          exact ⟨hlt, by rw [hbest, if_neg hb'], hf⟩
    · have hil : i = L.length := by omega
      simp only [ferry_ferryref09_Best_l1]
      obtain hq | ⟨b, q, hq⟩ : L = [] ∨ ∃ b q, L = b :: q := by cases L <;> simp
      · have h0 : i = 0 := by rw [hil, hq]; rfl
        subst h0
        (repeat' (first | (simp only [wp, extractV, exists_eq_left', if_true, if_false, ite_true, ite_false, reduceIte, Nat.reduceAdd, Nat.reduceLT, Nat.reduceLeDiff, Nat.reduceEqDiff, sw.len, List.length_map, ltF hlt, hb0, show decide ((-1 : Int) < 0) = true from rfl]) | (with_reducible refine Run.gC ?_ ?_ <;> intro hb <;> try simp only [hb]) | (with_reducible refine Run.gG ?_ ?_ <;> intro hb <;> try simp only [hb]) | (with_reducible refine Run.gQ ?_ ?_ <;> intro hb <;> try simp only [hb])))
        simp [hq]
      · have h0 : ¬ i = 0 := by rw [hil, hq]; simp
        have hbm : best (prio t.ps) (L.headD 0) L ∈ L := by
          have hhd : L.headD 0 ∈ L := by rw [hq]; simp
          rcases best_mem (prio t.ps) L (L.headD 0) with g | g
          · rw [g]; exact hhd
          · exact g
        have := (atq _ hbm).1
        have hneg : decide (best (prio t.ps) (L.headD 0) L < 0) = false := decide_eq_false (by omega)
        have e : L.take i = L := take_all (by omega)
        (repeat' (first | (simp only [wp, extractV, exists_eq_left', if_true, if_false, ite_true, ite_false, reduceIte, Nat.reduceAdd, Nat.reduceLT, Nat.reduceLeDiff, Nat.reduceEqDiff, sw.len, List.length_map, ltF hlt, hb0, if_neg h0, e, hneg]) | (with_reducible refine Run.gC ?_ ?_ <;> intro hb <;> try simp only [hb]) | (with_reducible refine Run.gG ?_ ?_ <;> intro hb <;> try simp only [hb]) | (with_reducible refine Run.gQ ?_ ?_ <;> intro hb <;> try simp only [hb])))
        simp [hq]
  · simp only [ferry_ferryref09_Best]
    (repeat' (first | (simp only [wp, extractV, exists_eq_left', if_true, if_false, ite_true, ite_false, reduceIte, Nat.reduceAdd, Nat.reduceLT, Nat.reduceLeDiff, Nat.reduceEqDiff, ref_good_spec _ h, decide_eq_false hok]) | (with_reducible refine Run.gC ?_ ?_ <;> intro hb <;> try simp only [hb]) | (with_reducible refine Run.gG ?_ ?_ <;> intro hb <;> try simp only [hb]) | (with_reducible refine Run.gQ ?_ ?_ <;> intro hb <;> try simp only [hb])))
    simp [rbestV, hok]
end Go.Fv.Tr
