/-
  The law ReadyForms, run to its end. By an AI agent; no person has read it.
-/
import Derived.Test.YtjjiphigolegbaaDoorFvSpJ
set_option linter.unusedVariables false
set_option linter.unusedSimpArgs false
set_option linter.unusedSectionVars false
/-! The law ReadyForms, run to its end. -/
namespace Go.Fv.Tr
open Go Go.Fv Go.Fv.Pl Go.Proofs
set_option linter.unusedSimpArgs false
set_option linter.unusedVariables false
variable {G : Nat → Option (List V)}

def rpick (t : Tab) : V :=
  if TabOk t then (match t.q with | [] => .tuple [.int .i64 0, .int .i64 17] | b :: _ => .tuple [.int .i64 (best (prio t.ps) b t.q), .int .i64 0]) else .tuple [.int .i64 0, .int .i64 9]
theorem best_one (f : Int → Int) {q : List Int} (h : 0 < q.length) : best f (q.headD 0) (q.take 1) = q[0] := by
  cases q with
  | nil => simp at h
  | cons b q => simp [best]
theorem rpick_spec (n : Nat) {x y z : V} {t : Tab} (h : IsTab x y z t) : callV (cfg G) (sem (cfg G) (n + 4)) 43 [.agg [x, y, z]] = M.ret (rpick t) := by
  refine callV_pure0 rfl (by simp [h.closed]) (by unfold rpick; split <;> (try split) <;> rfl) ?_
  rw [ferry_ferryref09_Pick_eq]
  by_cases hok : TabOk t
  · have atq : ∀ m ∈ t.q, 0 ≤ m ∧ ∃ p, at? t.ps m = some p ∧ prio t.ps m = p.prio := fun m hm => by
      have h1 := hok.q.1 m hm
      have h2 := h1
      unfold isReady at h2
      obtain ⟨p, hp, _⟩ := Option.map_eq_some_iff.1 h2
      exact ⟨h1.lt.1, p, hp, by simp [prio, hp]⟩
    simp only [ferry_ferryref09_Pick]
    (repeat' (first | (simp only [wp, extractV, exists_eq_left', if_true, if_false, ite_true, ite_false, reduceIte, Nat.reduceAdd, Nat.reduceLT, Nat.reduceLeDiff, Nat.reduceEqDiff, ref_good_spec _ h, decide_eq_true hok]) | (with_reducible refine Run.gC ?_ ?_ <;> intro hb <;> try simp only [hb]) | (with_reducible refine Run.gG ?_ ?_ <;> intro hb <;> try simp only [hb]) | (with_reducible refine Run.gQ ?_ ?_ <;> intro hb <;> try simp only [hb])))
    refine Run.loop (N := t.q.length) (fun i s H => s = [.int .i64 (if i = 0 then -1 else best (prio t.ps) (t.q.headD 0) (t.q.take i)), .int .i64 (i : Nat)] ∧ H.floor = 0 ∧ H.blk 0 = some ⟨3, [[x, y, z]]⟩)
      ⟨rfl, rfl, rfl⟩ ?_
    rintro i s H hi ⟨rfl, hf, hb0⟩
    by_cases hlt : i < t.q.length
    · have h2 := h.q.idx (k := .i64) (i := i) (by simpa using hlt)
      simp only [List.getElem_map] at h2
      obtain ⟨p0, p, hp, ep⟩ := atq _ (List.getElem_mem hlt)
      obtain ⟨i1, w1⟩ := h.at hp
      rcases Nat.eq_zero_or_pos i with h0 | h0
      · subst h0
        have hneg : decide ((-1 : Int) < 0) = true := rfl
        have he : best (prio t.ps) (t.q.headD 0) (t.q.take (0 + 1)) = t.q[0] := by
          exact best_one _ hlt
        simp only [ferry_ferryref09_Pick_l1, ferry_ferryref09_Pick_j1]
        (repeat' (first | (simp only [wp, extractV, exists_eq_left', if_true, if_false, ite_true, ite_false, reduceIte, Nat.reduceAdd, Nat.reduceLT, Nat.reduceLeDiff, Nat.reduceEqDiff, h.q.len, List.length_map, ltT hlt, addN hlt h.big.2.1, hb0, h2, ir_at, hneg]) | (with_reducible refine Run.gC ?_ ?_ <;> intro hb <;> try simp only [hb]) | (with_reducible refine Run.gG ?_ ?_ <;> intro hb <;> try simp only [hb]) | (with_reducible refine Run.gQ ?_ ?_ <;> intro hb <;> try simp only [hb])))
        exact ⟨hlt, by rw [he], hf⟩
      · have hne : ¬ i = 0 := by omega
        have hhd : t.q.headD 0 ∈ t.q := by
          cases hq : t.q with
          | nil => rw [hq] at hlt; simp at hlt
          | cons b q => simp
        have hbm : best (prio t.ps) (t.q.headD 0) (t.q.take i) ∈ t.q := by
          rcases best_mem (prio t.ps) (t.q.take i) (t.q.headD 0) with g | g
          · rw [g]; exact hhd
          · exact List.mem_of_mem_take g
        obtain ⟨q0, p', hp', ep'⟩ := atq _ hbm
        obtain ⟨i2, w2⟩ := h.at hp'
        have hbest := best_snoc (prio t.ps) (t.q.headD 0) t.q[i] (t.q.take i)
        rw [← take_snoc hlt, ep, ep'] at hbest
        have hneg : decide (best (prio t.ps) (t.q.headD 0) (t.q.take i) < 0) = false := decide_eq_false (by omega)
        simp only [ferry_ferryref09_Pick_l1, ferry_ferryref09_Pick_j1]
        (repeat' (first | (simp only [wp, extractV, exists_eq_left', if_true, if_false, ite_true, ite_false, reduceIte, Nat.reduceAdd, Nat.reduceLT, Nat.reduceLeDiff, Nat.reduceEqDiff, h.q.len, List.length_map, ltT hlt, addN hlt h.big.2.1, hb0, h2, ir_at, if_neg hne, hneg, i1, i2, pr_prio w1, pr_prio w2]) | (with_reducible refine Run.gC ?_ ?_ <;> intro hb <;> try simp only [hb]) | (with_reducible refine Run.gG ?_ ?_ <;> intro hb <;> try simp only [hb]) | (with_reducible refine Run.gQ ?_ ?_ <;> intro hb <;> try simp only [hb])))
        · have hb' := of_decide_eq_true hb
          exact ⟨hlt, by rw [hbest, if_pos hb'], hf⟩
        · have hb' := of_decide_eq_false hb
          exact ⟨hlt, by rw [hbest, if_neg hb'], hf⟩
    · have hil : i = t.q.length := by omega
      simp only [ferry_ferryref09_Pick_l1]
      obtain hq | ⟨b, q, hq⟩ : t.q = [] ∨ ∃ b q, t.q = b :: q := by cases t.q <;> simp
      · have h0 : i = 0 := by rw [hil, hq]; rfl
        subst h0
        (repeat' (first | (simp only [wp, extractV, exists_eq_left', if_true, if_false, ite_true, ite_false, reduceIte, Nat.reduceAdd, Nat.reduceLT, Nat.reduceLeDiff, Nat.reduceEqDiff, h.q.len, List.length_map, ltF hlt, hb0, show decide ((-1 : Int) < 0) = true from rfl]) | (with_reducible refine Run.gC ?_ ?_ <;> intro hb <;> try simp only [hb]) | (with_reducible refine Run.gG ?_ ?_ <;> intro hb <;> try simp only [hb]) | (with_reducible refine Run.gQ ?_ ?_ <;> intro hb <;> try simp only [hb])))
        simp [rpick, hok, hq]
      · have h0 : ¬ i = 0 := by rw [hil, hq]; simp
        have hbm : best (prio t.ps) (t.q.headD 0) t.q ∈ t.q := by
          have hhd : t.q.headD 0 ∈ t.q := by rw [hq]; simp
          rcases best_mem (prio t.ps) t.q (t.q.headD 0) with g | g
          · rw [g]; exact hhd
          · exact g
        have := (atq _ hbm).1
        have hneg : decide (best (prio t.ps) (t.q.headD 0) t.q < 0) = false := decide_eq_false (by omega)
        have e : t.q.take i = t.q := take_all (by omega)
        (repeat' (first | (simp only [wp, extractV, exists_eq_left', if_true, if_false, ite_true, ite_false, reduceIte, Nat.reduceAdd, Nat.reduceLT, Nat.reduceLeDiff, Nat.reduceEqDiff, h.q.len, List.length_map, ltF hlt, hb0, if_neg h0, e, hneg]) | (with_reducible refine Run.gC ?_ ?_ <;> intro hb <;> try simp only [hb]) | (with_reducible refine Run.gG ?_ ?_ <;> intro hb <;> try simp only [hb]) | (with_reducible refine Run.gQ ?_ ?_ <;> intro hb <;> try simp only [hb])))
        simp [rpick, hok, hq]
  · simp only [ferry_ferryref09_Pick]
    (repeat' (first | (simp only [wp, extractV, exists_eq_left', if_true, if_false, ite_true, ite_false, reduceIte, Nat.reduceAdd, Nat.reduceLT, Nat.reduceLeDiff, Nat.reduceEqDiff, ref_good_spec _ h, decide_eq_false hok]) | (with_reducible refine Run.gC ?_ ?_ <;> intro hb <;> try simp only [hb]) | (with_reducible refine Run.gG ?_ ?_ <;> intro hb <;> try simp only [hb]) | (with_reducible refine Run.gQ ?_ ?_ <;> intro hb <;> try simp only [hb])))
    simp [rpick, hok]

def badT : Tab := { ps := [], q := [0], ts := [] }
theorem bad_tab : IsTab .nils (.imm 1 (badT.q.map intRow)) .nils badT := ⟨Sls.nils _, Sls.imm _ _, Sls.nils _, by simp [badT], by decide⟩
theorem bad_not : ¬ TabOk badT := fun h => absurd (h.q.1 0 (by simp [badT])) (by decide)

set_option maxRecDepth 20000 in
theorem forms_run (hA : AErrs G) (n : Nat) {x y z : V} {t : Tab} (h : IsTab x y z t) : Run (sem (cfg G) (n + 11) 9 [.agg [x, y, z]]) Heap.empty fun v _ => v = .bool true := by
  have hG := hA.errs
  rw [ferry_ferrylaw09_ReadyForms_eq]
  obtain ⟨v, e, c, h1, h2, h3⟩ : ∃ (v : Int) (e : V) (c : Int), rpick t = .tuple [.int .i64 v, .int .i64 c] ∧ pickV' t = .tuple [.int .i64 v, e] ∧ Num e c := by
    by_cases hok : TabOk t
    · cases hq : t.q with
      | nil => exact ⟨0, errV 1, 17, by simp [rpick, hok, hq], by simp [pickV', hok, hq], .inr (.inr (.inl ⟨rfl, rfl⟩))⟩
      | cons b q => exact ⟨best (prio t.ps) b (b :: q), .nili, 0, by simp [rpick, hok, hq], by simp [pickV', hok, hq], .inl ⟨rfl, rfl⟩⟩
    · exact ⟨0, errV 0, 9, by simp [rpick, hok], by simp [pickV', hok], .inr (.inl ⟨rfl, rfl⟩)⟩
  simp only [ferry_ferrylaw09_ReadyForms]
  (repeat' (first | (simp only [wp, extractV, exists_eq_left', if_true, if_false, ite_true, ite_false, reduceIte, Nat.reduceAdd, Nat.reduceLT, Nat.reduceLeDiff, Nat.reduceEqDiff, awake_spec hG, some_spec, to_spec _ some_tab, ready_good_spec hG _ some_tab, decide_eq_true some_ok, Run.slice, fillRows, List.replicate_succ, List.replicate_zero, buildV, fill, putRow]) | (with_reducible refine Run.gC ?_ ?_ <;> intro hb <;> try simp only [hb]) | (with_reducible refine Run.gG ?_ ?_ <;> intro hb <;> try simp only [hb]) | (with_reducible refine Run.gQ ?_ ?_ <;> intro hb <;> try simp only [hb])))
  rw [Run.callRef rfl (bs := [.agg [.nils, .imm 1 (badT.q.map intRow), .nils]]) ?_ (by simp [bad_tab.closed]) (ready_good_spec hG _ bad_tab) rfl]
  · (repeat' (first | (simp only [wp, extractV, exists_eq_left', if_true, if_false, ite_true, ite_false, reduceIte, Nat.reduceAdd, Nat.reduceLT, Nat.reduceLeDiff, Nat.reduceEqDiff, decide_eq_false bad_not, ref_good_spec _ h, rpick_spec _ h, to_spec _ h, ready_good_spec hG _ h, pick_spec hG _ h, h1, h2, plain_spec hA _ h3, beq_self_eq_true, decide_true]) | (with_reducible refine Run.gC ?_ ?_ <;> intro hb <;> try simp only [hb]) | (with_reducible refine Run.gG ?_ ?_ <;> intro hb <;> try simp only [hb]) | (with_reducible refine Run.gQ ?_ ?_ <;> intro hb <;> try simp only [hb])))
  · rfl
end Go.Fv.Tr
