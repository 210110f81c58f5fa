/-
  What the functions of the layer 8 answer: Sort; the law's helpers. By an AI agent; no person has read it.
-/
import Derived.Test.YtjjiphigolegbabDoorFvSpM
set_option linter.unusedVariables false
set_option linter.unusedSimpArgs false
set_option linter.unusedSectionVars false
/-! What the functions of the layer 8 answer: Sort; the law's helpers. -/
namespace Go.Fv.Tr
open Go Go.Fv Go.Fv.Pl Go.Proofs
set_option linter.unusedSimpArgs false
set_option linter.unusedVariables false
variable {G : Nat → Option (List V)}

theorem check8 (hG : TErrs G) (n : Nat) {x : V} {ts : List Tm} (hx : Sls x 2 (ts.map tmRow)) (hl : ts.length ≤ big) :
    callV (cfg G) (sem (cfg G) (n + 5)) 87 [x, .int .i64 8] = M.ret (orNil (TsOk 8 ts) 0) := by
  refine callV_pure0 rfl (by simp [hx.closedV, cI]) (by unfold orNil; split <;> rfl) ?_
  rw [ferry_timer_Check_eq]
  have e0 : decide ((8 : Int) < 0) = false := rfl
  have e1 : decide ((8 : Int) < 8) = false := rfl
  simp only [ferry_timer_Check]
  (repeat' (first | (simp only [wp, extractV, exists_eq_left', if_true, if_false, ite_true, ite_false, reduceIte, Nat.reduceAdd, Nat.reduceLT, Nat.reduceLeDiff, Nat.reduceEqDiff, e0, e1, good8 n hx hl, glob_at hG.state]) | (with_reducible refine Run.gC ?_ ?_ <;> intro hb <;> try simp only [hb]) | (with_reducible refine Run.gG ?_ ?_ <;> intro hb <;> try simp only [hb]) | (with_reducible refine Run.gQ ?_ ?_ <;> intro hb <;> try simp only [hb])))
  all_goals simp_all [orNil]

theorem eq_tm {c : Bool} (a b : Tm) : eqV (.agg [.int, .int]) c (.agg (tmRow a)) (.agg (tmRow b)) = some (decide (a = b)) := by
  obtain ⟨a1, a2⟩ := a
  obtain ⟨b1, b2⟩ := b
  simp only [eqV, tmRow, eqCs, eqC, if_true, Option.bind_some, Bool.and_true, Option.some.injEq]
  by_cases h1 : a1 = b1 <;> by_cases h2 : a2 = b2 <;> simp [h1, h2]

theorem ints08_spec (n : Nat) {x y : V} {a b : List Int} (hx : Sls x 1 (a.map intRow)) (hy : Sls y 1 (b.map intRow)) (hl : a.length ≤ big) : callV (cfg G) (sem (cfg G) (n + 1)) 29 [x, y] = M.ret (.bool (decide (a = b))) := by
  refine callV_pure0 rfl (by simp [hx.closedV, hy.closedV]) rfl ?_
  rw [ferry_ferrylaw08_ints_eq]
  by_cases hab : a.length = b.length
  · have e0 : ((a.length : Int) == (b.length : Int)) = true := by simp [hab]
    simp only [ferry_ferrylaw08_ints]
    (repeat' (first | (simp only [wp, extractV, exists_eq_left', if_true, if_false, ite_true, ite_false, reduceIte, Nat.reduceAdd, Nat.reduceLT, Nat.reduceLeDiff, Nat.reduceEqDiff, hx.len, hy.len, List.length_map, e0]) | (with_reducible refine Run.gC ?_ ?_ <;> intro hb <;> try simp only [hb]) | (with_reducible refine Run.gG ?_ ?_ <;> intro hb <;> try simp only [hb]) | (with_reducible refine Run.gQ ?_ ?_ <;> intro hb <;> try simp only [hb])))
    refine Run.loop (N := a.length) (fun i s H => s = [.bool false, .int .i64 (i : Nat)] ∧ a.take i = b.take i) ⟨rfl, by simp⟩ ?_
    rintro i s H hi ⟨rfl, ht⟩
    by_cases hlt : i < a.length
    · have h2 := hx.idx (k := .i64) (i := i) (by simpa using hlt)
      have h3 := hy.idx (k := .i64) (i := i) (by simp; omega)
      simp only [List.getElem_map] at h2 h3
      simp only [ferry_ferrylaw08_ints_l1]
      (repeat' (first | (simp only [wp, extractV, exists_eq_left', if_true, if_false, ite_true, ite_false, reduceIte, Nat.reduceAdd, Nat.reduceLT, Nat.reduceLeDiff, Nat.reduceEqDiff, hx.len, List.length_map, ltT hlt, addN hlt hl, h2, h3, ir_at]) | (with_reducible refine Run.gC ?_ ?_ <;> intro hb <;> try simp only [hb]) | (with_reducible refine Run.gG ?_ ?_ <;> intro hb <;> try simp only [hb]) | (with_reducible refine Run.gQ ?_ ?_ <;> intro hb <;> try simp only [hb])))
      · have hb' : a[i] = b[i] := by simpa using hb
        refine ⟨hlt, ?_⟩
        rw [take_snoc hlt, take_snoc (by omega), ht, hb']
      · refine boolF fun g => ?_
        subst g
        simp at hb
    · simp only [ferry_ferrylaw08_ints_l1]
      (repeat' (first | (simp only [wp, extractV, exists_eq_left', if_true, if_false, ite_true, ite_false, reduceIte, Nat.reduceAdd, Nat.reduceLT, Nat.reduceLeDiff, Nat.reduceEqDiff, hx.len, List.length_map, ltF hlt]) | (with_reducible refine Run.gC ?_ ?_ <;> intro hb <;> try simp only [hb]) | (with_reducible refine Run.gG ?_ ?_ <;> intro hb <;> try simp only [hb]) | (with_reducible refine Run.gQ ?_ ?_ <;> intro hb <;> try simp only [hb])))
      rw [take_all (by omega), take_all (by omega)] at ht
      exact boolT ht
  · have e0 : ((a.length : Int) == (b.length : Int)) = false := by rw [beq_eq_false_iff_ne]; omega
    simp only [ferry_ferrylaw08_ints]
    (repeat' (first | (simp only [wp, extractV, exists_eq_left', if_true, if_false, ite_true, ite_false, reduceIte, Nat.reduceAdd, Nat.reduceLT, Nat.reduceLeDiff, Nat.reduceEqDiff, hx.len, hy.len, List.length_map, e0]) | (with_reducible refine Run.gC ?_ ?_ <;> intro hb <;> try simp only [hb]) | (with_reducible refine Run.gG ?_ ?_ <;> intro hb <;> try simp only [hb]) | (with_reducible refine Run.gQ ?_ ?_ <;> intro hb <;> try simp only [hb])))
    exact boolF fun g => hab (by rw [g])

theorem same08_spec (n : Nat) {x y : V} {a b : List Tm} (hx : Sls x 2 (a.map tmRow)) (hy : Sls y 2 (b.map tmRow)) (hl : a.length ≤ big) : callV (cfg G) (sem (cfg G) (n + 1)) 28 [x, y] = M.ret (.bool (decide (a = b))) := by
  refine callV_pure0 rfl (by simp [hx.closedV, hy.closedV]) rfl ?_
  rw [ferry_ferryref08_Same_eq]
  by_cases hab : a.length = b.length
  · have e0 : ((a.length : Int) == (b.length : Int)) = true := by simp [hab]
    simp only [ferry_ferryref08_Same]
    (repeat' (first | (simp only [wp, extractV, exists_eq_left', if_true, if_false, ite_true, ite_false, reduceIte, Nat.reduceAdd, Nat.reduceLT, Nat.reduceLeDiff, Nat.reduceEqDiff, hx.len, hy.len, List.length_map, e0]) | (with_reducible refine Run.gC ?_ ?_ <;> intro hb <;> try simp only [hb]) | (with_reducible refine Run.gG ?_ ?_ <;> intro hb <;> try simp only [hb]) | (with_reducible refine Run.gQ ?_ ?_ <;> intro hb <;> try simp only [hb])))
    refine Run.loop (N := a.length) (fun i s H => s = [.bool false, .int .i64 (i : Nat)] ∧ a.take i = b.take i) ⟨rfl, by simp⟩ ?_
    rintro i s H hi ⟨rfl, ht⟩
    by_cases hlt : i < a.length
    · have h2 := hx.idx (k := .i64) (i := i) (by simpa using hlt)
      have h3 := hy.idx (k := .i64) (i := i) (by simp; omega)
      simp only [List.getElem_map] at h2 h3
      simp only [ferry_ferryref08_Same_l1]
      (repeat' (first | (simp only [wp, extractV, exists_eq_left', if_true, if_false, ite_true, ite_false, reduceIte, Nat.reduceAdd, Nat.reduceLT, Nat.reduceLeDiff, Nat.reduceEqDiff, hx.len, List.length_map, ltT hlt, addN hlt hl, h2, h3, tm_len, tm_take, eq_tm]) | (with_reducible refine Run.gC ?_ ?_ <;> intro hb <;> try simp only [hb]) | (with_reducible refine Run.gG ?_ ?_ <;> intro hb <;> try simp only [hb]) | (with_reducible refine Run.gQ ?_ ?_ <;> intro hb <;> try simp only [hb])))
      · have hb' : a[i] = b[i] := of_decide_eq_true hb
        refine ⟨hlt, ?_⟩
        rw [take_snoc hlt, take_snoc (by omega), ht, hb']
      · refine boolF fun g => ?_
        subst g
        simp at hb
    · simp only [ferry_ferryref08_Same_l1]
      (repeat' (first | (simp only [wp, extractV, exists_eq_left', if_true, if_false, ite_true, ite_false, reduceIte, Nat.reduceAdd, Nat.reduceLT, Nat.reduceLeDiff, Nat.reduceEqDiff, hx.len, List.length_map, ltF hlt]) | (with_reducible refine Run.gC ?_ ?_ <;> intro hb <;> try simp only [hb]) | (with_reducible refine Run.gG ?_ ?_ <;> intro hb <;> try simp only [hb]) | (with_reducible refine Run.gQ ?_ ?_ <;> intro hb <;> try simp only [hb])))
      rw [take_all (by omega), take_all (by omega)] at ht
      exact boolT ht
  · have e0 : ((a.length : Int) == (b.length : Int)) = false := by rw [beq_eq_false_iff_ne]; omega
    simp only [ferry_ferryref08_Same]
    (repeat' (first | (simp only [wp, extractV, exists_eq_left', if_true, if_false, ite_true, ite_false, reduceIte, Nat.reduceAdd, Nat.reduceLT, Nat.reduceLeDiff, Nat.reduceEqDiff, hx.len, hy.len, List.length_map, e0]) | (with_reducible refine Run.gC ?_ ?_ <;> intro hb <;> try simp only [hb]) | (with_reducible refine Run.gG ?_ ?_ <;> intro hb <;> try simp only [hb]) | (with_reducible refine Run.gQ ?_ ?_ <;> intro hb <;> try simp only [hb])))
    exact boolF fun g => hab (by rw [g])

theorem copied08_spec (n : Nat) {x : V} {rows : List (List V)} (hx : Sls x 2 rows) (hf : flatRows rows = true) (hr : rows.length * 16 ≤ room) : Says (cfg G) (sem (cfg G) (n + 1)) 16 [x] fun r => Sls r 2 rows := by
  intro ok
  rw [ferry_ferrylaw08_copied_eq]
  simp only [ferry_ferrylaw08_copied]
  (repeat' (first | (simp only [wp, extractV, exists_eq_left', if_true, if_false, ite_true, ite_false, reduceIte, Nat.reduceAdd, Nat.reduceLT, Nat.reduceLeDiff, Nat.reduceEqDiff, Run.slice0]) | (with_reducible refine Run.gC ?_ ?_ <;> intro hb <;> try simp only [hb]) | (with_reducible refine Run.gG ?_ ?_ <;> intro hb <;> try simp only [hb]) | (with_reducible refine Run.gQ ?_ ?_ <;> intro hb <;> try simp only [hb])))
  refine (Run.app (bytes := 16) (by exact Nat.zero_le _) (Own.emp _ _) (hx.items _) (by simpa using hr)).mono fun x' H' ⟨o, _, _⟩ => ?_
  (repeat' (first | (simp only [wp, extractV, exists_eq_left', if_true, if_false, ite_true, ite_false, reduceIte, Nat.reduceAdd, Nat.reduceLT, Nat.reduceLeDiff, Nat.reduceEqDiff]) | (with_reducible refine Run.gC ?_ ?_ <;> intro hb <;> try simp only [hb]) | (with_reducible refine Run.gG ?_ ?_ <;> intro hb <;> try simp only [hb]) | (with_reducible refine Run.gQ ?_ ?_ <;> intro hb <;> try simp only [hb])))
  obtain ⟨w, hw, _, hs⟩ := o.thawV hf ok
  exact ⟨w, hw, hs⟩
def allRight (ts : List Tm) : Prop := ∀ t ∈ ts, right 8 t
instance (ts : List Tm) : Decidable (allRight ts) := inferInstanceAs (Decidable (∀ t ∈ ts, right 8 t))
theorem nodup8 {ts : List Tm} (h : allRight ts) (hn : (ts.map Tm.proc).Nodup) : ts.length ≤ 8 := by
  have := nodup_lenI (n := 8) hn (fun x hx => by
    obtain ⟨t, ht, rfl⟩ := List.mem_map.1 hx
    exact ⟨(h t ht).1, (h t ht).2.1⟩)
  simpa using this

theorem sort_spec (hG : TErrs G) (n : Nat) {x : V} {ts : List Tm} (hx : Sls x 2 (ts.map tmRow)) (hl : ts.length ≤ big) :
    Says (cfg G) (sem (cfg G) (n + 7)) 26 [x] fun r => (allRight ts ∧ (ts.map Tm.proc).Nodup ∧ ∃ y, r = .tuple [y, .nili] ∧ Sls y 2 ((isort ts).map tmRow)) ∨
      (allRight ts ∧ ¬ (ts.map Tm.proc).Nodup ∧ r = .tuple [.nils, errV 1]) ∨ (¬ allRight ts ∧ r = .tuple [.nils, errV 2]) := by
  intro ok
  rw [ferry_timer_Sort_eq]
  simp only [ferry_timer_Sort, marks_none]
  (repeat' (first | (simp only [wp, extractV, exists_eq_left', if_true, if_false, ite_true, ite_false, reduceIte, Nat.reduceAdd, Nat.reduceLT, Nat.reduceLeDiff, Nat.reduceEqDiff, hx.len, List.length_map]) | (with_reducible refine Run.gC ?_ ?_ <;> intro hb <;> try simp only [hb]) | (with_reducible refine Run.gG ?_ ?_ <;> intro hb <;> try simp only [hb]) | (with_reducible refine Run.gQ ?_ ?_ <;> intro hb <;> try simp only [hb])))
  refine Run.loop (N := ts.length) (fun i s H => s = [.nils, .nili, .bool (decide (¬ ((ts.take i).map Tm.proc).Nodup)), .int .i64 (i : Nat)] ∧ H.floor = 0 ∧ 0 < H.next ∧
      H.blk 0 = some ⟨8, [marks fun j => decide (((j : Nat) : Int) ∈ (ts.take i).map Tm.proc)]⟩ ∧ allRight (ts.take i))
    ⟨by simp, rfl, by simp [Heap.add_next], by simp [Heap.add_blk, Heap.empty_next, marks_len], by simp [allRight]⟩ ?_
  rintro i s H hi ⟨rfl, hf, hn, hb0, hok⟩
  by_cases hlt : i < ts.length
  · have h2 := hx.idx (k := .i64) (i := i) (by simpa using hlt)
    simp only [List.getElem_map] at h2
    have hz : ¬ 0 = H.next := by omega
    by_cases hr : right 8 ts[i]
    · have ha : aidxV 8 1 (.ptr 0 0 0) (.int .i64 ts[i].proc) = some (.ptr 0 0 ts[i].proc.toNat) := by
        have := aidx_in (l := 0) (i := 0) (o := 0) hr.1 (n := 8) (by have := hr.2.1; omega)
        rwa [Nat.mul_one, Nat.zero_add] at this
      have h8 : ts[i].proc.toNat < 8 := by have := hr.2.1; have := hr.1; omega
      have hg := marks_get (fun j => decide (((j : Nat) : Int) ∈ (ts.take i).map Tm.proc)) h8
      have hle : ts[i].proc.toNat + 1 ≤ (marks fun j => decide (((j : Nat) : Int) ∈ (ts.take i).map Tm.proc)).length := by rw [marks_len]; omega
      simp only [Int.toNat_of_nonneg hr.1] at hg
      have hmk := marks_next (l := (ts.take i).map Tm.proc) hr.1 (by have := hr.2.1; omega : ts[i].proc < 8)
      have hm1 : (ts.take i).map Tm.proc ++ [ts[i].proc] = (ts.take (i + 1)).map Tm.proc := by rw [take_snoc hlt, List.map_append]; rfl
      rw [hm1] at hmk
      have hal : allRight (ts.take (i + 1)) := by
        rw [take_snoc hlt]
        intro t ht
        rcases List.mem_append.1 ht with h | h
        · exact hok t h
        · rw [List.mem_singleton] at h; subst h; exact hr
      have hnd : ((ts.take (i + 1)).map Tm.proc).Nodup ↔ ((ts.take i).map Tm.proc).Nodup ∧ ts[i].proc ∉ (ts.take i).map Tm.proc := by
        rw [← hm1, List.nodup_append]
        simp only [List.mem_singleton]
        constructor
        · rintro ⟨a, _, b⟩
          exact ⟨a, fun h => b _ h _ rfl rfl⟩
        · rintro ⟨a, b⟩
          exact ⟨a, by simp, fun u hu v hv e => b (by rw [← hv, ← e]; exact hu)⟩
      simp only [ferry_timer_Sort_l1]
      (repeat' (first | (simp only [wp, extractV, exists_eq_left', if_true, if_false, ite_true, ite_false, reduceIte, Nat.reduceAdd, Nat.reduceLT, Nat.reduceLeDiff, Nat.reduceEqDiff, ltT hlt, h2, addN hlt hl, hf, right_spec, hb0, hz, hn, tm_len, tm_take, tm_proc, tm_due, ha, hg, decide_eq_true hr, hle]) | (with_reducible refine Run.gC ?_ ?_ <;> intro hb <;> try simp only [hb]) | (with_reducible refine Run.gG ?_ ?_ <;> intro hb <;> try simp only [hb]) | (with_reducible refine Run.gQ ?_ ?_ <;> intro hb <;> try simp only [hb])))
      · have hb' := of_decide_eq_true hb
        refine ⟨hlt, ?_, by rw [hmk], hal⟩
        rw [decide_eq_true (show ¬ ((ts.take (i + 1)).map Tm.proc).Nodup from fun h => hb' (hnd.1 h).1)]
      · have hb' := Decidable.not_not.1 (of_decide_eq_false hb)
        refine ⟨hlt, ?_, by rw [hmk], hal⟩
        have : decide (ts[i].proc ∈ (ts.take i).map Tm.proc) = decide (¬ ((ts.take (i + 1)).map Tm.proc).Nodup) := decide_eq_decide.2 (by
          rw [hnd]
          exact ⟨fun h g => g.2 h, fun h => Decidable.not_not.1 fun g => h ⟨hb', g⟩⟩)
        rw [this]
    · simp only [ferry_timer_Sort_l1]
      (repeat' (first | (simp only [wp, extractV, exists_eq_left', if_true, if_false, ite_true, ite_false, reduceIte, Nat.reduceAdd, Nat.reduceLT, Nat.reduceLeDiff, Nat.reduceEqDiff, ltT hlt, h2, addN hlt hl, hf, right_spec, hb0, hz, hn, tm_len, tm_take, tm_proc, tm_due, decide_eq_false hr, glob_at hG.range]) | (with_reducible refine Run.gC ?_ ?_ <;> intro hb <;> try simp only [hb]) | (with_reducible refine Run.gG ?_ ?_ <;> intro hb <;> try simp only [hb]) | (with_reducible refine Run.gQ ?_ ?_ <;> intro hb <;> try simp only [hb])))
      exact ⟨_, thawV_tup (mapM2 (thaw2_nils _ _) (thaw2_err _ _ _)), .inr (.inr ⟨fun h => hr (h _ (List.getElem_mem hlt)), rfl⟩)⟩
  · simp only [ferry_timer_Sort_l1]
    rw [take_all (by omega)] at hok
    have htk : ts.take i = ts := take_all (by omega)
    rw [htk]
    by_cases hnd : (ts.map Tm.proc).Nodup
    · have h8 := nodup8 hok hnd
      (repeat' (first | (simp only [wp, extractV, exists_eq_left', if_true, if_false, ite_true, ite_false, reduceIte, Nat.reduceAdd, Nat.reduceLT, Nat.reduceLeDiff, Nat.reduceEqDiff, ltF hlt, decide_eq_false (fun h : ¬ (ts.map Tm.proc).Nodup => h hnd)]) | (with_reducible refine Run.gC ?_ ?_ <;> intro hb <;> try simp only [hb]) | (with_reducible refine Run.gG ?_ ?_ <;> intro hb <;> try simp only [hb]) | (with_reducible refine Run.gQ ?_ ?_ <;> intro hb <;> try simp only [hb])))
      refine (clone74 _ hx (flat_tm _) (by simp; unfold room; omega) (by rw [hf]; exact Nat.zero_le _)).mono fun y H1 ⟨o, f, l⟩ => ?_
      (repeat' (first | (simp only [wp, extractV, exists_eq_left', if_true, if_false, ite_true, ite_false, reduceIte, Nat.reduceAdd, Nat.reduceLT, Nat.reduceLeDiff, Nat.reduceEqDiff]) | (with_reducible refine Run.gC ?_ ?_ <;> intro hb <;> try simp only [hb]) | (with_reducible refine Run.gG ?_ ?_ <;> intro hb <;> try simp only [hb]) | (with_reducible refine Run.gQ ?_ ?_ <;> intro hb <;> try simp only [hb])))
      refine (sortFunc_spec n o (by omega)).mono fun _ H4 ⟨o5, _⟩ => ?_
      (repeat' (first | (simp only [wp, extractV, exists_eq_left', if_true, if_false, ite_true, ite_false, reduceIte, Nat.reduceAdd, Nat.reduceLT, Nat.reduceLeDiff, Nat.reduceEqDiff]) | (with_reducible refine Run.gC ?_ ?_ <;> intro hb <;> try simp only [hb]) | (with_reducible refine Run.gG ?_ ?_ <;> intro hb <;> try simp only [hb]) | (with_reducible refine Run.gQ ?_ ?_ <;> intro hb <;> try simp only [hb])))
      obtain ⟨w, _, hw2, hs⟩ := o5.thawV (flat_tm _) ok
      exact ⟨_, thawV_tup (mapM2 hw2 (thaw2_nili _ _)), .inl ⟨hok, hnd, w, rfl, hs⟩⟩
    · (repeat' (first | (simp only [wp, extractV, exists_eq_left', if_true, if_false, ite_true, ite_false, reduceIte, Nat.reduceAdd, Nat.reduceLT, Nat.reduceLeDiff, Nat.reduceEqDiff, ltF hlt, decide_eq_true hnd, glob_at hG.arg]) | (with_reducible refine Run.gC ?_ ?_ <;> intro hb <;> try simp only [hb]) | (with_reducible refine Run.gG ?_ ?_ <;> intro hb <;> try simp only [hb]) | (with_reducible refine Run.gQ ?_ ?_ <;> intro hb <;> try simp only [hb])))
      exact ⟨_, thawV_tup (mapM2 (thaw2_nils _ _) (thaw2_err _ _ _)), .inr (.inl ⟨hok, hnd, rfl⟩)⟩
end Go.Fv.Tr
