/-
  What the functions of the layer 8 answer: Shift. By an AI agent; no person has read it.
-/
import Derived.Test.YtjjiphigolegbabDoorFvSpQ
import Derived.Test.YtjjiphigolegbabDoorFvMem2
import Derived.Test.YtjjiphigolegbabDoorFvTr7
set_option linter.unusedVariables false
set_option linter.unusedSimpArgs false
set_option linter.unusedSectionVars false
/-! What the functions of the layer 8 answer: Shift. -/
namespace Go.Fv.Tr
open Go Go.Fv Go.Fv.Pl Go.Proofs
set_option linter.unusedSimpArgs false
set_option linter.unusedVariables false
variable {G : Nat → Option (List V)}

def shT (k : Int) (t : Tm) : Tm := ⟨t.proc, if 0 > t.due - k then 0 else t.due - k⟩
def shiftT (ts : List Tm) (k : Int) : List Tm := isort (ts.map (shT k))
theorem shT_right {t : Tm} (h : right 8 t) {k : Int} (hk : 0 ≤ k) : right 8 (shT k t) := by
  simp only [right, shT] at h ⊢
  split <;> omega
theorem shT_procs (ts : List Tm) (k : Int) : (ts.map (shT k)).map Tm.proc = ts.map Tm.proc := by rw [List.map_map]; rfl
theorem shiftT_ok {ts : List Tm} (h : TsOk 8 ts) {k : Int} (hk : 0 ≤ k) : TsOk 8 (shiftT ts k) :=
  isort_ok (fun t ht => by obtain ⟨u, hu, rfl⟩ := List.mem_map.1 ht; exact shT_right (h.mem u hu) hk) (by rw [shT_procs]; exact h.nodup)
theorem shiftT_len (ts : List Tm) (k : Int) : (shiftT ts k).length = ts.length := by rw [shiftT, isort_len, List.length_map]

theorem mix_set {α : Type} (f : α → α) (l : List α) {i : Nat} (h : i < l.length) : ((l.take i).map f ++ l.drop i).set i (f l[i]) = (l.take (i + 1)).map f ++ l.drop (i + 1) := by
  have e : l.drop i = l[i] :: l.drop (i + 1) := List.drop_eq_getElem_cons h
  have hl : ((l.take i).map f).length = i := by rw [List.length_map, List.length_take]; omega
  rw [e, List.set_append_right _ _ (by omega), hl, Nat.sub_self, List.set_cons_zero, take_snoc h, List.map_append, List.append_assoc]
  rfl
theorem mix_get {α : Type} (f : α → α) (l : List α) {i : Nat} (h : i < l.length) : ((l.take i).map f ++ l.drop i)[i]? = some l[i] := by
  have hl : ((l.take i).map f).length = i := by rw [List.length_map, List.length_take]; omega
  rw [List.getElem?_append_right (by omega), hl, Nat.sub_self, List.getElem?_drop, Nat.add_zero, List.getElem?_eq_getElem h]

theorem shift_spec (hG : TErrs G) (n : Nat) {x : V} {ts : List Tm} (hx : Sls x 2 (ts.map tmRow)) (hl : ts.length ≤ big) (k : Int) :
    Says (cfg G) (sem (cfg G) (n + 7)) 25 [x, .int .i64 k] fun r =>
      (TsOk 8 ts ∧ (1 ≤ k ∧ k ≤ 10000) ∧ ∃ y, r = .tuple [y, .nili] ∧ Sls y 2 ((shiftT ts k).map tmRow)) ∨ (TsOk 8 ts ∧ ¬ (1 ≤ k ∧ k ≤ 10000) ∧ r = .tuple [.nils, errV 1]) ∨ (¬ TsOk 8 ts ∧ r = .tuple [.nils, errV 0]) := by
  intro ok
  rw [ferry_timer_Shift_eq]
  simp only [ferry_timer_Shift]
  by_cases hok : TsOk 8 ts
  · have h8 := ts_len8 hok
    by_cases hk : 1 ≤ k ∧ k ≤ 10000
    · have e1 : decide (k < 1) = false := decide_eq_false (by omega)
      have e2 : decide (10000 < k) = false := decide_eq_false (by omega)
      (repeat' (first | (simp only [wp, extractV, exists_eq_left', if_true, if_false, ite_true, ite_false, reduceIte, Nat.reduceAdd, Nat.reduceLT, Nat.reduceLeDiff, Nat.reduceEqDiff, good8 (n + 2) hx hl, decide_eq_true hok, e1, e2]) | (with_reducible refine Run.gC ?_ ?_ <;> intro hb <;> try simp only [hb]) | (with_reducible refine Run.gG ?_ ?_ <;> intro hb <;> try simp only [hb]) | (with_reducible refine Run.gQ ?_ ?_ <;> intro hb <;> try simp only [hb])))
      refine (clone74 _ hx (flat_tm _) (by rw [List.length_map]; unfold room; omega) (by exact Nat.zero_le _)).mono fun y H1 ⟨o, f, _⟩ => ?_
      (repeat' (first | (simp only [wp, extractV, exists_eq_left', if_true, if_false, ite_true, ite_false, reduceIte, Nat.reduceAdd, Nat.reduceLT, Nat.reduceLeDiff, Nat.reduceEqDiff, o.len, List.length_map]) | (with_reducible refine Run.gC ?_ ?_ <;> intro hb <;> try simp only [hb]) | (with_reducible refine Run.gG ?_ ?_ <;> intro hb <;> try simp only [hb]) | (with_reducible refine Run.gQ ?_ ?_ <;> intro hb <;> try simp only [hb])))
      refine Run.loop (N := ts.length) (fun i s H => s = [.int .i64 (i : Nat)] ∧ H.floor = 0 ∧ Own H y 2 (((ts.take i).map (shT k) ++ ts.drop i).map tmRow)) ⟨rfl, f.floor, by simpa using o⟩ ?_
      rintro i s H hi ⟨rfl, hf, ho⟩
      by_cases hlt : i < ts.length
      · have hlen : i < ((((ts.take i).map (shT k) ++ ts.drop i)).map tmRow).length := by rw [List.length_map, List.length_append, List.length_map, List.length_take, List.length_drop]; omega
        obtain ⟨l, b, hl1, hix, hb, hr, hfl⟩ := ho.idx (k := .i64) hlen
        have hget : ((((ts.take i).map (shT k) ++ ts.drop i)).map tmRow)[i] = tmRow ts[i] := by
          have := mix_get (shT k) ts hlt
          rw [← Option.some_inj, ← List.getElem?_eq_getElem, List.getElem?_map, this]; rfl
        rw [hget] at hr
        have hdue := hok.mem _ (List.getElem_mem hlt)
        have hs : arithV .sub (.int .i64 ts[i].due) (.int .i64 k) = some (.int .i64 (ts[i].due - k)) := arith_sub (by have := hdue.2.2; omega) (by have := hdue.2.2; omega)
        have hmx : maxV (.int .i64 (ts[i].due - k)) (.int .i64 0) = some (.int .i64 (shT k ts[i]).due) := rfl
        have hrow : [V.int .i64 ts[i].proc] ++ [.int .i64 (shT k ts[i]).due] = tmRow (shT k ts[i]) := rfl
        have hput := ho.put (i := i) hl1 hb (tmRow (shT k ts[i]))
        rw [← List.map_set, mix_set (shT k) ts hlt] at hput
        simp only [ferry_timer_Shift_l1]
        (repeat' (first | (simp only [wp, extractV, exists_eq_left', if_true, if_false, ite_true, ite_false, reduceIte, Nat.reduceAdd, Nat.reduceLT, Nat.reduceLeDiff, Nat.reduceEqDiff, ltT hlt, hix, hb, hr, tm_due, hs, hmx, hfl, addN hlt hl, tm_len]) | (with_reducible refine Run.gC ?_ ?_ <;> intro hb <;> try simp only [hb]) | (with_reducible refine Run.gG ?_ ?_ <;> intro hb <;> try simp only [hb]) | (with_reducible refine Run.gQ ?_ ?_ <;> intro hb <;> try simp only [hb])))
        exact ⟨hlt, hf, hput⟩
      · simp only [ferry_timer_Shift_l1]
        rw [take_all (by omega), List.drop_of_length_le (by omega), List.append_nil] at ho
        (repeat' (first | (simp only [wp, extractV, exists_eq_left', if_true, if_false, ite_true, ite_false, reduceIte, Nat.reduceAdd, Nat.reduceLT, Nat.reduceLeDiff, Nat.reduceEqDiff, ltF hlt]) | (with_reducible refine Run.gC ?_ ?_ <;> intro hb <;> try simp only [hb]) | (with_reducible refine Run.gG ?_ ?_ <;> intro hb <;> try simp only [hb]) | (with_reducible refine Run.gQ ?_ ?_ <;> intro hb <;> try simp only [hb])))
        refine (sortFunc_spec n ho (by rw [List.length_map]; omega)).mono fun _ H4 ⟨o5, _⟩ => ?_
        (repeat' (first | (simp only [wp, extractV, exists_eq_left', if_true, if_false, ite_true, ite_false, reduceIte, Nat.reduceAdd, Nat.reduceLT, Nat.reduceLeDiff, Nat.reduceEqDiff]) | (with_reducible refine Run.gC ?_ ?_ <;> intro hb <;> try simp only [hb]) | (with_reducible refine Run.gG ?_ ?_ <;> intro hb <;> try simp only [hb]) | (with_reducible refine Run.gQ ?_ ?_ <;> intro hb <;> try simp only [hb])))
        obtain ⟨w, _, hw2, hs⟩ := o5.thawV (flat_tm _) ok
        exact ⟨_, thawV_tup (mapM2 hw2 (thaw2_nili _ _)), .inl ⟨hok, hk, w, rfl, hs⟩⟩
    · (repeat' (first | (simp only [wp, extractV, exists_eq_left', if_true, if_false, ite_true, ite_false, reduceIte, Nat.reduceAdd, Nat.reduceLT, Nat.reduceLeDiff, Nat.reduceEqDiff, good8 (n + 2) hx hl, decide_eq_true hok, glob_at hG.arg]) | (with_reducible refine Run.gC ?_ ?_ <;> intro hb <;> try simp only [hb]) | (with_reducible refine Run.gG ?_ ?_ <;> intro hb <;> try simp only [hb]) | (with_reducible refine Run.gQ ?_ ?_ <;> intro hb <;> try simp only [hb])))
      · exact ⟨_, thawV_tup (mapM2 (thaw2_nils _ _) (thaw2_err _ _ _)), .inr (.inl ⟨hok, hk, rfl⟩)⟩
      · exact ⟨_, thawV_tup (mapM2 (thaw2_nils _ _) (thaw2_err _ _ _)), .inr (.inl ⟨hok, hk, rfl⟩)⟩
      all_goals (exfalso; simp at *; omega)
  · (repeat' (first | (simp only [wp, extractV, exists_eq_left', if_true, if_false, ite_true, ite_false, reduceIte, Nat.reduceAdd, Nat.reduceLT, Nat.reduceLeDiff, Nat.reduceEqDiff, good8 (n + 2) hx hl, decide_eq_false hok, glob_at hG.state]) | (with_reducible refine Run.gC ?_ ?_ <;> intro hb <;> try simp only [hb]) | (with_reducible refine Run.gG ?_ ?_ <;> intro hb <;> try simp only [hb]) | (with_reducible refine Run.gQ ?_ ?_ <;> intro hb <;> try simp only [hb])))
    exact ⟨_, thawV_tup (mapM2 (thaw2_nils _ _) (thaw2_err _ _ _)), .inr (.inr ⟨hok, rfl⟩)⟩
end Go.Fv.Tr
