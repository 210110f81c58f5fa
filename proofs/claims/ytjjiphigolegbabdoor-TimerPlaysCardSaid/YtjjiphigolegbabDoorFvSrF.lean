/-
  One call of a script of timers; the law TimerPlays, run to its end. By an AI agent; no person has read it.
-/
import Derived.Test.YtjjiphigolegbabDoorFvSrE
set_option linter.unusedVariables false
set_option linter.unusedSimpArgs false
set_option linter.unusedSectionVars false
/-! One call of a script of timers; the law TimerPlays, run to its end. -/
namespace Go.Fv.Tr
open Go Go.Fv Go.Fv.Pl Go.Proofs
set_option linter.unusedSimpArgs false
set_option linter.unusedVariables false
variable {G : Nat → Option (List V)}

theorem setL_len (ts : List Tm) (p d : Int) (h : setC ts p d = 0) : (setL ts p d).length ≤ 8 := by
  rw [setL, if_pos h]
  by_cases hok : TsOk 8 ts
  · by_cases hr : right 8 ⟨p, d⟩
    · exact ts_len8 (setT_ok hok hr)
    · rw [setC, if_pos hok, if_neg hr] at h; cases h
  · rw [setC, if_neg hok] at h; cases h
theorem dropL_len (ts : List Tm) (p : Int) : (dropL ts p).length ≤ 8 := by
  unfold dropL
  split
  · exact ts_len8 (wo_ok (by assumption) p)
  · exact Nat.zero_le _
theorem fireL_len (ts : List Tm) (p : Int) : (fireL ts p).length ≤ 8 := by
  unfold fireL
  split
  · exact ts_len8 (left_ok (by assumption) p)
  · exact Nat.zero_le _
theorem fireF_len (ts : List Tm) (p : Int) : (fireF ts p).length ≤ 8 := by
  unfold fireF
  split
  · rename_i h
    have := dues_left_len ts p
    have := ts_len8 h
    omega
  · exact Nat.zero_le _
theorem shiftL_len (ts : List Tm) (k : Int) (h : shiftC ts k = 0) : (shiftL ts k).length ≤ 8 := by
  rw [shiftL, if_pos h]
  by_cases hok : TsOk 8 ts
  · rw [shiftT_len]; exact ts_len8 hok
  · rw [shiftC, if_neg hok] at h; cases h
theorem len_room {L : List Tm} (h : L.length ≤ 8) : L.length * 16 ≤ room := by unfold room; omega
theorem len_big {L : List Tm} (h : L.length ≤ 8) : L.length ≤ big := by unfold big; omega

/-- What a call of a script answers: all alike, and a list of timers. -/
def Goes (G : Nat → Option (List V)) (n : Nat) (x : V) (k p m : Int) : Prop :=
  ∃ r, callV (cfg G) (sem (cfg G) (n + 9)) 31 [x, .agg (op3 k p m)] = M.ret r ∧ ∃ (y : V) (L : List Tm), r = .tuple [y, .bool true] ∧ Sls y 2 (L.map tmRow) ∧ L.length * 16 ≤ room

set_option maxRecDepth 40000 in
set_option maxHeartbeats 2000000 in
theorem plays_set (hA : AErrs G) (n : Nat) {x : V} {ts : List Tm} (hx : Sls x 2 (ts.map tmRow)) (hr : ts.length * 16 ≤ room) (p m : Int) : Goes G n x 1 p m := by
  have hl : ts.length ≤ big := by unfold room at hr; unfold big; omega
  refine callV_pureE rfl (by simp [hx.closedV, op3_closed]) ?_
  rw [ferry_ferrylaw08_plays_eq]
  simp only [ferry_ferrylaw08_plays, op3]
  obtain ⟨c, e1, hc⟩ := copied_eqR (G := G) (n + 7) hx hr
  obtain ⟨s, e2, hs⟩ := set08_spec (G := G) (n + 4) hx hl p m
  obtain ⟨s', er, e3, hs', hn⟩ := tset_eq (G := G) hA (n + 1) hc hl p m
  by_cases h0 : setC ts p m = 0
  · have h8 := setL_len ts p m h0
    have e4 := same08_spec (G := G) (n + 7) hs' hs (len_big h8)
    have e5 := code08_spec hA (n + 5) hn
    rw [h0] at e2 e5
    simp only [ferry_ferrylaw08_plays_j1, ferry_ferrylaw08_plays_j2]
    (repeat' (first | (simp (maxSteps := 5000000) only [wp, extractV, exists_eq_left', if_true, if_false, ite_true, ite_false, reduceIte, Nat.reduceAdd, Nat.reduceLT, Nat.reduceLeDiff, Nat.reduceEqDiff, e1, e2, e3, e4, e5, beq_self_eq_true, decide_true]) | (with_reducible refine Run.gC ?_ ?_ <;> intro hb <;> try simp only [hb]) | (with_reducible refine Run.gG ?_ ?_ <;> intro hb <;> try simp only [hb]) | (with_reducible refine Run.gQ ?_ ?_ <;> intro hb <;> try simp only [hb])))
    exact ⟨_, thawV_closedT (by simp [V.closedT, hs.closedV, cB]) _, _, _, rfl, hs, len_room h8⟩
  · have hb0 : (setC ts p m == 0) = false := by simpa using h0
    have e4 := same08_spec (G := G) (n + 7) hs' hs (by rw [setL, if_neg h0]; exact Nat.zero_le _)
    have e5 := code08_spec hA (n + 5) hn
    simp only [ferry_ferrylaw08_plays_j1, ferry_ferrylaw08_plays_j2]
    (repeat' (first | (simp (maxSteps := 5000000) only [wp, extractV, exists_eq_left', if_true, if_false, ite_true, ite_false, reduceIte, Nat.reduceAdd, Nat.reduceLT, Nat.reduceLeDiff, Nat.reduceEqDiff, e1, e2, e3, e4, e5, beq_self_eq_true, decide_true, hb0]) | (with_reducible refine Run.gC ?_ ?_ <;> intro hb <;> try simp only [hb]) | (with_reducible refine Run.gG ?_ ?_ <;> intro hb <;> try simp only [hb]) | (with_reducible refine Run.gQ ?_ ?_ <;> intro hb <;> try simp only [hb])))
    exact ⟨_, thawV_closedT (by simp [V.closedT, hx.closedV, cB]) _, _, _, rfl, hx, hr⟩

set_option maxRecDepth 40000 in
set_option maxHeartbeats 2000000 in
theorem plays_drop (hA : AErrs G) (n : Nat) {x : V} {ts : List Tm} (hx : Sls x 2 (ts.map tmRow)) (hr : ts.length * 16 ≤ room) (p m : Int) : Goes G n x 2 p m := by
  have hl : ts.length ≤ big := by unfold room at hr; unfold big; omega
  refine callV_pureE rfl (by simp [hx.closedV, op3_closed]) ?_
  rw [ferry_ferrylaw08_plays_eq]
  simp only [ferry_ferrylaw08_plays, op3]
  obtain ⟨c, e1, hc⟩ := copied_eqR (G := G) (n + 7) hx hr
  obtain ⟨s, e2, hs⟩ := drop08_spec (G := G) (n + 4) hx hl p
  obtain ⟨s', er, e3, hs', hn⟩ := tdrop_eq (G := G) hA (n + 3) hc hl p
  have h8 := dropL_len ts p
  have e4 := same08_spec (G := G) (n + 7) hs' hs (len_big h8)
  have e5 := code08_spec hA (n + 5) hn
  have d21 : ((2 : Int) == 1) = false := rfl
  simp only [ferry_ferrylaw08_plays_j1, ferry_ferrylaw08_plays_j2]
  by_cases h0 : okC ts = 0
  · rw [h0] at e2 e5
    (repeat' (first | (simp (maxSteps := 5000000) only [wp, extractV, exists_eq_left', if_true, if_false, ite_true, ite_false, reduceIte, Nat.reduceAdd, Nat.reduceLT, Nat.reduceLeDiff, Nat.reduceEqDiff, e1, e2, e3, e4, e5, beq_self_eq_true, decide_true, d21]) | (with_reducible refine Run.gC ?_ ?_ <;> intro hb <;> try simp only [hb]) | (with_reducible refine Run.gG ?_ ?_ <;> intro hb <;> try simp only [hb]) | (with_reducible refine Run.gQ ?_ ?_ <;> intro hb <;> try simp only [hb])))
    exact ⟨_, thawV_closedT (by simp [V.closedT, hs.closedV, cB]) _, _, _, rfl, hs, len_room h8⟩
  · have hb0 : (okC ts == 0) = false := by simpa using h0
    (repeat' (first | (simp (maxSteps := 5000000) only [wp, extractV, exists_eq_left', if_true, if_false, ite_true, ite_false, reduceIte, Nat.reduceAdd, Nat.reduceLT, Nat.reduceLeDiff, Nat.reduceEqDiff, e1, e2, e3, e4, e5, beq_self_eq_true, decide_true, hb0, d21]) | (with_reducible refine Run.gC ?_ ?_ <;> intro hb <;> try simp only [hb]) | (with_reducible refine Run.gG ?_ ?_ <;> intro hb <;> try simp only [hb]) | (with_reducible refine Run.gQ ?_ ?_ <;> intro hb <;> try simp only [hb])))
    exact ⟨_, thawV_closedT (by simp [V.closedT, hx.closedV, cB]) _, _, _, rfl, hx, hr⟩

set_option maxRecDepth 40000 in
set_option maxHeartbeats 2000000 in
theorem plays_fire (hA : AErrs G) (n : Nat) {x : V} {ts : List Tm} (hx : Sls x 2 (ts.map tmRow)) (hr : ts.length * 16 ≤ room) (p m : Int) : Goes G n x 3 p m := by
  have hl : ts.length ≤ big := by unfold room at hr; unfold big; omega
  refine callV_pureE rfl (by simp [hx.closedV, op3_closed]) ?_
  rw [ferry_ferrylaw08_plays_eq]
  simp only [ferry_ferrylaw08_plays, op3]
  obtain ⟨c, e1, hc⟩ := copied_eqR (G := G) (n + 7) hx hr
  obtain ⟨f, s, e2, hf, hs⟩ := fire08_spec (G := G) (n + 4) hx hl m
  obtain ⟨f', s', er, e3, hf', hs', hn⟩ := tfire_eq (G := G) hA (n + 3) hc hl m
  have h8 := fireL_len ts m
  have e4 := same08_spec (G := G) (n + 7) hs' hs (len_big h8)
  have e6 := ints08_spec (G := G) (n + 7) hf' hf (by have := fireF_len ts m; unfold big; omega)
  have e5 := code08_spec hA (n + 5) hn
  have d31 : ((3 : Int) == 1) = false := rfl
  have d32 : ((3 : Int) == 2) = false := rfl
  simp only [ferry_ferrylaw08_plays_j1, ferry_ferrylaw08_plays_j2]
  by_cases h0 : okC ts = 0
  · rw [h0] at e2 e5
    (repeat' (first | (simp (maxSteps := 5000000) only [wp, extractV, exists_eq_left', if_true, if_false, ite_true, ite_false, reduceIte, Nat.reduceAdd, Nat.reduceLT, Nat.reduceLeDiff, Nat.reduceEqDiff, e1, e2, e3, e4, e5, e6, beq_self_eq_true, decide_true, d31, d32]) | (with_reducible refine Run.gC ?_ ?_ <;> intro hb <;> try simp only [hb]) | (with_reducible refine Run.gG ?_ ?_ <;> intro hb <;> try simp only [hb]) | (with_reducible refine Run.gQ ?_ ?_ <;> intro hb <;> try simp only [hb])))
    exact ⟨_, thawV_closedT (by simp [V.closedT, hs.closedV, cB]) _, _, _, rfl, hs, len_room h8⟩
  · have hb0 : (okC ts == 0) = false := by simpa using h0
    (repeat' (first | (simp (maxSteps := 5000000) only [wp, extractV, exists_eq_left', if_true, if_false, ite_true, ite_false, reduceIte, Nat.reduceAdd, Nat.reduceLT, Nat.reduceLeDiff, Nat.reduceEqDiff, e1, e2, e3, e4, e5, e6, beq_self_eq_true, decide_true, hb0, d31, d32]) | (with_reducible refine Run.gC ?_ ?_ <;> intro hb <;> try simp only [hb]) | (with_reducible refine Run.gG ?_ ?_ <;> intro hb <;> try simp only [hb]) | (with_reducible refine Run.gQ ?_ ?_ <;> intro hb <;> try simp only [hb])))
    exact ⟨_, thawV_closedT (by simp [V.closedT, hx.closedV, cB]) _, _, _, rfl, hx, hr⟩

set_option maxRecDepth 40000 in
set_option maxHeartbeats 2000000 in
theorem plays_shift (hA : AErrs G) (n : Nat) {x : V} {ts : List Tm} (hx : Sls x 2 (ts.map tmRow)) (hr : ts.length * 16 ≤ room) (p m : Int) : Goes G n x 4 p m := by
  have hl : ts.length ≤ big := by unfold room at hr; unfold big; omega
  refine callV_pureE rfl (by simp [hx.closedV, op3_closed]) ?_
  rw [ferry_ferrylaw08_plays_eq]
  simp only [ferry_ferrylaw08_plays, op3]
  obtain ⟨c, e1, hc⟩ := copied_eqR (G := G) (n + 7) hx hr
  obtain ⟨s, e2, hs⟩ := shift08_spec (G := G) (n + 4) hx hl m
  obtain ⟨s', er, e3, hs', hn⟩ := tshift_eq (G := G) hA (n + 1) hc hl m
  have d41 : ((4 : Int) == 1) = false := rfl
  have d42 : ((4 : Int) == 2) = false := rfl
  have d43 : ((4 : Int) == 3) = false := rfl
  simp only [ferry_ferrylaw08_plays_j1, ferry_ferrylaw08_plays_j2]
  by_cases h0 : shiftC ts m = 0
  · have h8 := shiftL_len ts m h0
    have e4 := same08_spec (G := G) (n + 7) hs' hs (len_big h8)
    have e5 := code08_spec hA (n + 5) hn
    rw [h0] at e2 e5
    (repeat' (first | (simp (maxSteps := 5000000) only [wp, extractV, exists_eq_left', if_true, if_false, ite_true, ite_false, reduceIte, Nat.reduceAdd, Nat.reduceLT, Nat.reduceLeDiff, Nat.reduceEqDiff, e1, e2, e3, e4, e5, beq_self_eq_true, decide_true, d41, d42, d43]) | (with_reducible refine Run.gC ?_ ?_ <;> intro hb <;> try simp only [hb]) | (with_reducible refine Run.gG ?_ ?_ <;> intro hb <;> try simp only [hb]) | (with_reducible refine Run.gQ ?_ ?_ <;> intro hb <;> try simp only [hb])))
    exact ⟨_, thawV_closedT (by simp [V.closedT, hs.closedV, cB]) _, _, _, rfl, hs, len_room h8⟩
  · have hb0 : (shiftC ts m == 0) = false := by simpa using h0
    have e4 := same08_spec (G := G) (n + 7) hs' hs (by rw [shiftL, if_neg h0]; exact Nat.zero_le _)
    have e5 := code08_spec hA (n + 5) hn
    (repeat' (first | (simp (maxSteps := 5000000) only [wp, extractV, exists_eq_left', if_true, if_false, ite_true, ite_false, reduceIte, Nat.reduceAdd, Nat.reduceLT, Nat.reduceLeDiff, Nat.reduceEqDiff, e1, e2, e3, e4, e5, beq_self_eq_true, decide_true, hb0, d41, d42, d43]) | (with_reducible refine Run.gC ?_ ?_ <;> intro hb <;> try simp only [hb]) | (with_reducible refine Run.gG ?_ ?_ <;> intro hb <;> try simp only [hb]) | (with_reducible refine Run.gQ ?_ ?_ <;> intro hb <;> try simp only [hb])))
    exact ⟨_, thawV_closedT (by simp [V.closedT, hx.closedV, cB]) _, _, _, rfl, hx, hr⟩

set_option maxRecDepth 40000 in
set_option maxHeartbeats 2000000 in
theorem plays_rest (hA : AErrs G) (n : Nat) {x : V} {ts : List Tm} (hx : Sls x 2 (ts.map tmRow)) (hr : ts.length * 16 ≤ room) (k p m : Int) (h1 : k ≠ 1) (h2 : k ≠ 2) (h3 : k ≠ 3) (h4 : k ≠ 4) : Goes G n x k p m := by
  have hl : ts.length ≤ big := by unfold room at hr; unfold big; omega
  refine callV_pureE rfl (by simp [hx.closedV, op3_closed]) ?_
  rw [ferry_ferrylaw08_plays_eq]
  have e1 := looks_spec (G := G) hA n hx hr k p m
  simp only [op3] at e1
  simp only [ferry_ferrylaw08_plays, op3, ferry_ferrylaw08_plays_j1, ferry_ferrylaw08_plays_j2]
  have d1 : (k == 1) = false := by simpa using h1
  have d2 : (k == 2) = false := by simpa using h2
  have d3 : (k == 3) = false := by simpa using h3
  have d4 : (k == 4) = false := by simpa using h4
  by_cases h5 : k = 5
  · subst h5
    (repeat' (first | (simp (maxSteps := 5000000) only [wp, extractV, exists_eq_left', if_true, if_false, ite_true, ite_false, reduceIte, Nat.reduceAdd, Nat.reduceLT, Nat.reduceLeDiff, Nat.reduceEqDiff, e1, beq_self_eq_true, decide_true, d1, d2, d3, d4]) | (with_reducible refine Run.gC ?_ ?_ <;> intro hb <;> try simp only [hb]) | (with_reducible refine Run.gG ?_ ?_ <;> intro hb <;> try simp only [hb]) | (with_reducible refine Run.gQ ?_ ?_ <;> intro hb <;> try simp only [hb])))
    exact ⟨_, thawV_closedT (by simp [V.closedT, hx.closedV, cB]) _, _, _, rfl, hx, hr⟩
  · have d5 : (k == 5) = false := by simpa using h5
    (repeat' (first | (simp (maxSteps := 5000000) only [wp, extractV, exists_eq_left', if_true, if_false, ite_true, ite_false, reduceIte, Nat.reduceAdd, Nat.reduceLT, Nat.reduceLeDiff, Nat.reduceEqDiff, beq_self_eq_true, decide_true, d1, d2, d3, d4, d5]) | (with_reducible refine Run.gC ?_ ?_ <;> intro hb <;> try simp only [hb]) | (with_reducible refine Run.gG ?_ ?_ <;> intro hb <;> try simp only [hb]) | (with_reducible refine Run.gQ ?_ ?_ <;> intro hb <;> try simp only [hb])))
    exact ⟨_, thawV_closedT (by simp [V.closedT, hx.closedV, cB]) _, _, _, rfl, hx, hr⟩

theorem plays_spec (hA : AErrs G) (n : Nat) {x : V} {ts : List Tm} (hx : Sls x 2 (ts.map tmRow)) (hr : ts.length * 16 ≤ room) (k p m : Int) : Goes G n x k p m := by
  by_cases h1 : k = 1
  · subst h1; exact plays_set hA n hx hr p m
  by_cases h2 : k = 2
  · subst h2; exact plays_drop hA n hx hr p m
  by_cases h3 : k = 3
  · subst h3; exact plays_fire hA n hx hr p m
  by_cases h4 : k = 4
  · subst h4; exact plays_shift hA n hx hr p m
  exact plays_rest hA n hx hr k p m h1 h2 h3 h4

structure Op3 where
  k : Int
  p : Int
  m : Int
def Op3.row (o : Op3) : List V := op3 o.k o.p o.m
theorem op3_take (k p m : Int) : (op3 k p m).take 3 = op3 k p m := rfl
theorem op3_len (k p m : Int) : (op3 k p m).length = 3 := rfl
set_option maxRecDepth 40000 in
set_option maxHeartbeats 2000000 in
theorem plays_run (hA : AErrs G) (n : Nat) {x s : V} {ts : List Tm} {ops : List Op3} (hx : Sls x 2 (ts.map tmRow)) (hr : ts.length * 16 ≤ room) (hs : Sls s 3 (ops.map Op3.row)) (hso : ops.length ≤ big) :
    ∃ v H', sem (cfg G) (n + 10) 5 [x, s] Heap.empty = some (v, H') ∧ v = .bool true := by
  show Run (sem (cfg G) (n + 10) 5 [x, s]) Heap.empty fun v _ => v = .bool true
  rw [ferry_ferrylaw08_TimerPlays_eq]
  obtain ⟨c, e1, hc⟩ := copied_eqR (G := G) (n + 8) hx hr
  simp only [ferry_ferrylaw08_TimerPlays]
  (repeat' (first | (simp only [wp, extractV, exists_eq_left', if_true, if_false, ite_true, ite_false, reduceIte, Nat.reduceAdd, Nat.reduceLT, Nat.reduceLeDiff, Nat.reduceEqDiff, known_spec hA.terrs (n + 1), e1, hs.len]) | (with_reducible refine Run.gC ?_ ?_ <;> intro hb <;> try simp only [hb]) | (with_reducible refine Run.gG ?_ ?_ <;> intro hb <;> try simp only [hb]) | (with_reducible refine Run.gQ ?_ ?_ <;> intro hb <;> try simp only [hb])))
  refine Run.loop (N := ops.length) (fun i st H => H.floor = 0 ∧ ∃ y L, st = [.bool false, y, .int .i64 (i : Nat)] ∧ Sls y 2 (L.map tmRow) ∧ L.length * 16 ≤ room) ⟨rfl, c, ts, rfl, hc, hr⟩ ?_
  rintro i st H hi ⟨hf, y, L, rfl, hy, hL⟩
  by_cases hlt : i < ops.length
  · have h2 := hs.idx (k := .i64) (i := i) (by simpa using hlt)
    simp only [List.getElem_map, Op3.row] at h2
    obtain ⟨r, e2, y', L', rfl, hy', hL'⟩ := plays_spec (G := G) hA n hy hL ops[i].k ops[i].p ops[i].m
    simp only [ferry_ferrylaw08_TimerPlays_l1]
    (repeat' (first | (simp only [wp, extractV, exists_eq_left', if_true, if_false, ite_true, ite_false, reduceIte, Nat.reduceAdd, Nat.reduceLT, Nat.reduceLeDiff, Nat.reduceEqDiff, hs.len, List.length_map, ltT hlt, h2, op3_len, op3_take, e2, addN hlt hso]) | (with_reducible refine Run.gC ?_ ?_ <;> intro hb <;> try simp only [hb]) | (with_reducible refine Run.gG ?_ ?_ <;> intro hb <;> try simp only [hb]) | (with_reducible refine Run.gQ ?_ ?_ <;> intro hb <;> try simp only [hb])))
    exact ⟨hlt, hf, y', L', rfl, hy', hL'⟩
  · simp only [ferry_ferrylaw08_TimerPlays_l1]
    (repeat' (first | (simp only [wp, extractV, exists_eq_left', if_true, if_false, ite_true, ite_false, reduceIte, Nat.reduceAdd, Nat.reduceLT, Nat.reduceLeDiff, Nat.reduceEqDiff, hs.len, List.length_map, ltF hlt]) | (with_reducible refine Run.gC ?_ ?_ <;> intro hb <;> try simp only [hb]) | (with_reducible refine Run.gG ?_ ?_ <;> intro hb <;> try simp only [hb]) | (with_reducible refine Run.gQ ?_ ?_ <;> intro hb <;> try simp only [hb])))
end Go.Fv.Tr
