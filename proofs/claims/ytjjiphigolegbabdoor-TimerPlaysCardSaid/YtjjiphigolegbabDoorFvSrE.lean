/-
  The layer 8 beside the document's: the least due, every Check, the errors' numbers; all looks. By an AI agent; no person has read it.
-/
import Derived.Test.YtjjiphigolegbabDoorFvSrD
import Derived.Test.YtjjiphigolegbabDoorFvSpJ
import Derived.Test.YtjjiphigolegbabDoorFvSpP
import Derived.Test.YtjjiphigolegbabDoorFvTr16
set_option linter.unusedVariables false
set_option linter.unusedSimpArgs false
set_option linter.unusedSectionVars false
/-! The layer 8 beside the document's: the least due, every Check, the errors' numbers; all looks. -/
namespace Go.Fv.Tr
open Go Go.Fv Go.Fv.Pl Go.Proofs
set_option linter.unusedSimpArgs false
set_option linter.unusedVariables false
variable {G : Nat → Option (List V)}

theorem AErrs.terrs (h : AErrs G) : TErrs G := ⟨h.at_ 0 rfl, h.at_ 1 rfl, h.at_ 2 rfl⟩

theorem tnext_spec (n : Nat) {x : V} {ts : List Tm} (hx : Sls x 2 (ts.map tmRow)) (hl : ts.length ≤ big) :
    callV (cfg G) (sem (cfg G) (n + 1)) 104 [x] = M.ret (.tuple [.int .i64 (lstD ts), .bool (decide (ts ≠ []))]) := by
  refine callV_pure0 rfl (by simp [hx.closedV]) rfl ?_
  rw [ferry_timer_Next_eq]
  simp only [ferry_timer_Next]
  by_cases h0 : ts.length = 0
  · have e : ts = [] := List.length_eq_zero_iff.1 h0
    subst e
    (repeat' (first | (simp only [wp, extractV, exists_eq_left', if_true, if_false, ite_true, ite_false, reduceIte, Nat.reduceAdd, Nat.reduceLT, Nat.reduceLeDiff, Nat.reduceEqDiff, hx.len, List.map_nil, Int.natCast_zero, beq_self_eq_true]) | (with_reducible refine Run.gC ?_ ?_ <;> intro hb <;> try simp only [hb]) | (with_reducible refine Run.gG ?_ ?_ <;> intro hb <;> try simp only [hb]) | (with_reducible refine Run.gQ ?_ ?_ <;> intro hb <;> try simp only [hb])))
    rfl
  · have hb : (((ts.length : Nat) : Int) == 0) = false := by simpa using h0
    have i0 := hx.idx (k := .i64) (i := 0) (by rw [List.length_map]; omega)
    simp only [List.getElem_map, Int.natCast_zero] at i0
    (repeat' (first | (simp only [wp, extractV, exists_eq_left', if_true, if_false, ite_true, ite_false, reduceIte, Nat.reduceAdd, Nat.reduceLT, Nat.reduceLeDiff, Nat.reduceEqDiff, hx.len, List.length_map, hb, i0, tm_due]) | (with_reducible refine Run.gC ?_ ?_ <;> intro hb <;> try simp only [hb]) | (with_reducible refine Run.gG ?_ ?_ <;> intro hb <;> try simp only [hb]) | (with_reducible refine Run.gQ ?_ ?_ <;> intro hb <;> try simp only [hb])))
    refine Run.loop (N := ts.length) (fun i s H => s = [.int .i64 (lstD (ts.take (max i 1))), .int .i64 (i : Nat)] ∧ H.floor = 0) ⟨?_, rfl⟩ ?_
    · rw [show max 0 1 = 0 + 1 from rfl, take_snoc (by omega)]
      rfl
    rintro i s H hi ⟨rfl, hf⟩
    by_cases hlt : i < ts.length
    · have h2 := hx.idx (k := .i64) (i := i) (by simpa using hlt)
      simp only [List.getElem_map] at h2
      have hmn : ∀ {a b : Int}, minV (.int .i64 a) (.int .i64 b) = some (.int .i64 (if b < a then b else a)) := rfl
      simp only [ferry_timer_Next_l1]
      (repeat' (first | (simp only [wp, extractV, exists_eq_left', if_true, if_false, ite_true, ite_false, reduceIte, Nat.reduceAdd, Nat.reduceLT, Nat.reduceLeDiff, Nat.reduceEqDiff, ltT hlt, h2, addN hlt hl, tm_due, tm_len, tm_take, hf, hmn]) | (with_reducible refine Run.gC ?_ ?_ <;> intro hb <;> try simp only [hb]) | (with_reducible refine Run.gG ?_ ?_ <;> intro hb <;> try simp only [hb]) | (with_reducible refine Run.gQ ?_ ?_ <;> intro hb <;> try simp only [hb])))
      refine ⟨hlt, ?_⟩
      by_cases hi0 : i = 0
      · subst hi0
        have e : max (0 + 1) 1 = max 0 1 := rfl
        rw [e]
        have e2 : lstD (ts.take (max 0 1)) = ts[0].due := by
          rw [show max 0 1 = 0 + 1 from rfl, take_snoc (by omega)]; rfl
        rw [e2]
        simp
      · have e1 : max (i + 1) 1 = i + 1 := by omega
        have e2 : max i 1 = i := by omega
        have hne : ts.take i ≠ [] := by
          rw [Ne, List.take_eq_nil_iff]
          rintro (h | h)
          · omega
          · subst h; simp at h0
        rw [e1, e2, take_snoc hlt, lstD_snoc]
        by_cases g : ts[i].due < lstD (ts.take i)
        · rw [if_pos g, if_pos (.inr g)]
        · rw [if_neg g, if_neg (fun q => q.elim hne g)]
    · simp only [ferry_timer_Next_l1]
      (repeat' (first | (simp only [wp, extractV, exists_eq_left', if_true, if_false, ite_true, ite_false, reduceIte, Nat.reduceAdd, Nat.reduceLT, Nat.reduceLeDiff, Nat.reduceEqDiff, ltF hlt]) | (with_reducible refine Run.gC ?_ ?_ <;> intro hb <;> try simp only [hb]) | (with_reducible refine Run.gG ?_ ?_ <;> intro hb <;> try simp only [hb]) | (with_reducible refine Run.gQ ?_ ?_ <;> intro hb <;> try simp only [hb])))
      rw [take_all (by omega), decide_eq_true (show ts ≠ [] from fun e => h0 (by rw [e]; rfl))]

theorem tcheck_spec (hA : AErrs G) (n : Nat) {x : V} {ts : List Tm} (hx : Sls x 2 (ts.map tmRow)) (hl : ts.length ≤ big) (k : Int) :
    ∃ e, callV (cfg G) (sem (cfg G) (n + 5)) 87 [x, .int .i64 k] = M.ret e ∧ Num e (chkC ts k) := by
  by_cases hk : k < 0 ∨ 8 < k
  · refine ⟨errV 1, callV_pure0 rfl (by simp [hx.closedV, cI]) rfl ?_, .inr (.inr (.inr (.inl ⟨rfl, by rw [chkC, if_pos hk]⟩)))⟩
    rw [ferry_timer_Check_eq]
    simp only [ferry_timer_Check]
    (repeat' (first | (simp only [wp, extractV, exists_eq_left', if_true, if_false, ite_true, ite_false, reduceIte, Nat.reduceAdd, Nat.reduceLT, Nat.reduceLeDiff, Nat.reduceEqDiff, glob_at hA.errs.arg]) | (with_reducible refine Run.gC ?_ ?_ <;> intro hb <;> try simp only [hb]) | (with_reducible refine Run.gG ?_ ?_ <;> intro hb <;> try simp only [hb]) | (with_reducible refine Run.gQ ?_ ?_ <;> intro hb <;> try simp only [hb])))
    all_goals
      exfalso
      simp only [decide_eq_true_eq, decide_eq_false_iff_not] at *
      omega
  · have hc := check_spec (G := G) hA.errs n hx hl (k := k.toNat) (by omega)
    rw [Int.toNat_of_nonneg (by omega)] at hc
    refine ⟨_, hc, ?_⟩
    rw [chkC, if_neg hk]
    unfold orNil
    by_cases hok : TsOk k ts
    · rw [if_pos hok, if_pos hok]; exact .inl ⟨rfl, rfl⟩
    · rw [if_neg hok, if_neg hok]; exact .inr (.inl ⟨rfl, rfl⟩)

theorem code08_spec (hA : AErrs G) (n : Nat) {e : V} {c : Int} (h : Num e c) : callV (cfg G) (sem (cfg G) (n + 3)) 27 [e] = M.ret (.int .i64 c) := by
  refine callV_pure0 rfl (by simp [h.closed]) rfl ?_
  rw [ferry_ferrylaw08_code_eq]
  simp only [ferry_ferrylaw08_code]
  (repeat' (first | (simp only [wp, extractV, exists_eq_left', if_true, if_false, ite_true, ite_false, reduceIte, Nat.reduceAdd, Nat.reduceLT, Nat.reduceLeDiff, Nat.reduceEqDiff, code_spec hA _ h, place_spec hA _ h, beq_self_eq_true]) | (with_reducible refine Run.gC ?_ ?_ <;> intro hb <;> try simp only [hb]) | (with_reducible refine Run.gG ?_ ?_ <;> intro hb <;> try simp only [hb]) | (with_reducible refine Run.gQ ?_ ?_ <;> intro hb <;> try simp only [hb])))

theorem tset_eq (hA : AErrs G) (n : Nat) {x : V} {ts : List Tm} (hx : Sls x 2 (ts.map tmRow)) (hl : ts.length ≤ big) (p d : Int) :
    ∃ y e, callV (cfg G) (sem (cfg G) (n + 7)) 22 [x, .int .i64 p, .int .i64 d] = M.ret (.tuple [y, e]) ∧ Sls y 2 ((setL ts p d).map tmRow) ∧ Num e (setC ts p d) := by
  obtain ⟨r, e, h⟩ := (set_spec hA.terrs.s n hx hl p d).eq rfl (by simp [hx.closedV, cI])
  rcases h with ⟨h1, h2, y, rfl, hy⟩ | ⟨h1, h2, rfl⟩ | ⟨h1, rfl⟩
  · have hc : setC ts p d = 0 := by rw [setC, if_pos h1, if_pos h2]
    exact ⟨_, _, e, by rw [setL, if_pos hc]; exact hy, .inl ⟨rfl, hc⟩⟩
  · have hc : setC ts p d = 12 := by rw [setC, if_pos h1, if_neg h2]
    exact ⟨_, _, e, by rw [setL, hc]; exact Sls.nils _, .inr (.inr (.inr (.inl ⟨rfl, hc⟩)))⟩
  · have hc : setC ts p d = 9 := by rw [setC, if_neg h1]
    exact ⟨_, _, e, by rw [setL, hc]; exact Sls.nils _, .inr (.inl ⟨rfl, hc⟩)⟩
theorem tdrop_eq (hA : AErrs G) (n : Nat) {x : V} {ts : List Tm} (hx : Sls x 2 (ts.map tmRow)) (hl : ts.length ≤ big) (p : Int) :
    ∃ y e, callV (cfg G) (sem (cfg G) (n + 5)) 23 [x, .int .i64 p] = M.ret (.tuple [y, .bool (decide (TsOk 8 ts ∧ timed ts p)), e]) ∧ Sls y 2 ((dropL ts p).map tmRow) ∧ Num e (okC ts) := by
  obtain ⟨r, e, h⟩ := (drop_spec hA.terrs n hx hl p).eq rfl (by simp [hx.closedV, cI])
  rcases h with ⟨h1, y, rfl, hy⟩ | ⟨h1, rfl⟩
  · refine ⟨y, .nili, ?_, by rw [dropL, if_pos h1]; exact hy, .inl ⟨rfl, by rw [okC, if_pos h1]⟩⟩
    rw [e, show decide (TsOk 8 ts ∧ timed ts p) = decide (timed ts p) from decide_eq_decide.2 ⟨fun g => g.2, fun g => ⟨h1, g⟩⟩]
  · refine ⟨.nils, _, ?_, by rw [dropL, if_neg h1]; exact Sls.nils _, .inr (.inl ⟨rfl, by rw [okC, if_neg h1]⟩)⟩
    rw [e, show decide (TsOk 8 ts ∧ timed ts p) = false from decide_eq_false fun g => h1 g.1]
theorem tfire_eq (hA : AErrs G) (n : Nat) {x : V} {ts : List Tm} (hx : Sls x 2 (ts.map tmRow)) (hl : ts.length ≤ big) (now : Int) :
    ∃ y z e, callV (cfg G) (sem (cfg G) (n + 5)) 24 [x, .int .i64 now] = M.ret (.tuple [y, z, e]) ∧ Sls y 1 ((fireF ts now).map intRow) ∧ Sls z 2 ((fireL ts now).map tmRow) ∧ Num e (okC ts) := by
  obtain ⟨r, e, h⟩ := (fire_spec hA.terrs n hx hl now).eq rfl (by simp [hx.closedV, cI])
  rcases h with ⟨h1, y, z, rfl, hy, hz⟩ | ⟨h1, rfl⟩
  · exact ⟨y, z, .nili, e, by rw [fireF, if_pos h1]; exact hy, by rw [fireL, if_pos h1]; exact hz, .inl ⟨rfl, by rw [okC, if_pos h1]⟩⟩
  · exact ⟨.nils, .nils, _, e, by rw [fireF, if_neg h1]; exact Sls.nils _, by rw [fireL, if_neg h1]; exact Sls.nils _, .inr (.inl ⟨rfl, by rw [okC, if_neg h1]⟩)⟩
theorem tshift_eq (hA : AErrs G) (n : Nat) {x : V} {ts : List Tm} (hx : Sls x 2 (ts.map tmRow)) (hl : ts.length ≤ big) (k : Int) :
    ∃ y e, callV (cfg G) (sem (cfg G) (n + 7)) 25 [x, .int .i64 k] = M.ret (.tuple [y, e]) ∧ Sls y 2 ((shiftL ts k).map tmRow) ∧ Num e (shiftC ts k) := by
  obtain ⟨r, e, h⟩ := (shift_spec hA.terrs n hx hl k).eq rfl (by simp [hx.closedV, cI])
  rcases h with ⟨h1, h2, y, rfl, hy⟩ | ⟨h1, h2, rfl⟩ | ⟨h1, rfl⟩
  · have hc : shiftC ts k = 0 := by rw [shiftC, if_pos h1, if_pos h2]
    exact ⟨_, _, e, by rw [shiftL, if_pos hc]; exact hy, .inl ⟨rfl, hc⟩⟩
  · have hc : shiftC ts k = 12 := by rw [shiftC, if_pos h1, if_neg h2]
    exact ⟨_, _, e, by rw [shiftL, hc]; exact Sls.nils _, .inr (.inr (.inr (.inl ⟨rfl, hc⟩)))⟩
  · have hc : shiftC ts k = 9 := by rw [shiftC, if_neg h1]
    exact ⟨_, _, e, by rw [shiftL, hc]; exact Sls.nils _, .inr (.inl ⟨rfl, hc⟩)⟩
theorem tsort_eq (hA : AErrs G) (n : Nat) {x : V} {ts : List Tm} (hx : Sls x 2 (ts.map tmRow)) (hl : ts.length ≤ big) :
    ∃ y e, callV (cfg G) (sem (cfg G) (n + 7)) 26 [x] = M.ret (.tuple [y, e]) ∧ Sls y 2 ((sortL ts).map tmRow) ∧ Num e (rdCode ts) := by
  obtain ⟨r, e, h⟩ := (sort_spec hA.terrs n hx hl).eq rfl (by simp [hx.closedV])
  rcases h with ⟨h1, h2, y, rfl, hy⟩ | ⟨h1, h2, rfl⟩ | ⟨h1, rfl⟩
  · have hc : rdCode ts = 0 := by rw [rdCode, if_pos h1, if_pos h2]
    exact ⟨_, _, e, by rw [sortL, if_pos hc]; exact hy, .inl ⟨rfl, hc⟩⟩
  · have hc : rdCode ts = 12 := by rw [rdCode, if_pos h1, if_neg h2]
    exact ⟨_, _, e, by rw [sortL, hc]; exact Sls.nils _, .inr (.inr (.inr (.inl ⟨rfl, hc⟩)))⟩
  · have hc : rdCode ts = 4 := by rw [rdCode, if_neg h1]
    exact ⟨_, _, e, by rw [sortL, hc]; exact Sls.nils _, .inr (.inr (.inr (.inr ⟨rfl, hc⟩)))⟩
theorem copied_eqR (n : Nat) {x : V} {ts : List Tm} (hx : Sls x 2 (ts.map tmRow)) (hr : ts.length * 16 ≤ room) : ∃ r, callV (cfg G) (sem (cfg G) (n + 1)) 16 [x] = M.ret r ∧ Sls r 2 (ts.map tmRow) :=
  (copied08_spec n hx (flat_tm _) (by rw [List.length_map]; exact hr)).eq rfl (by simp [hx.closedV])

def op3 (k p m : Int) : List V := [.int .i64 k, .int .i64 p, .int .i64 m]
theorem op3_closed (k p m : Int) : (V.agg (op3 k p m)).closedV = true := rfl
theorem sortL_len {ts : List Tm} (hl : ts.length ≤ big) : (sortL ts).length ≤ big := by
  unfold sortL
  split
  · rw [isort_len]; exact hl
  · exact Nat.zero_le _
set_option maxRecDepth 40000 in
set_option maxHeartbeats 2000000 in
theorem looks_spec (hA : AErrs G) (n : Nat) {x : V} {ts : List Tm} (hx : Sls x 2 (ts.map tmRow)) (hr : ts.length * 16 ≤ room) (k p m : Int) :
    callV (cfg G) (sem (cfg G) (n + 8)) 74 [x, .agg (op3 k p m)] = M.ret (.bool true) := by
  have hl : ts.length ≤ big := by unfold room at hr; unfold big; omega
  refine callV_pure0 rfl (by simp [hx.closedV, op3_closed]) rfl ?_
  rw [ferry_ferrylaw08_looks_eq]
  simp only [ferry_ferrylaw08_looks, op3]
  obtain ⟨c, e1, hc⟩ := copied_eqR (G := G) (n + 6) hx hr
  have e2 := check08_spec (G := G) (n + 3) hx hl m
  have e3 := find08_spec (G := G) (n + 6) hx hl p
  have e4 := next08_spec (G := G) (n + 6) hx hl
  obtain ⟨s, e5, hs⟩ := sort08_spec (G := G) (n + 4) hx hl
  have e6 := find_spec (G := G) (n + 6) hc hl p
  have e7 := tnext_spec (G := G) (n + 6) hc hl
  obtain ⟨s', er, e8, hs', hn'⟩ := tsort_eq (G := G) hA n hc hl
  obtain ⟨er2, e9, hn2⟩ := tcheck_spec (G := G) hA (n + 2) hc hl m
  have e10 := same08_spec (G := G) (n + 6) hs' hs (sortL_len hl)
  have e11 := code08_spec hA (n + 4) hn'
  have e12 := code08_spec hA (n + 4) hn2
  (repeat' (first | (simp (maxSteps := 5000000) only [wp, extractV, exists_eq_left', if_true, if_false, ite_true, ite_false, reduceIte, Nat.reduceAdd, Nat.reduceLT, Nat.reduceLeDiff, Nat.reduceEqDiff, e1, e2, e3, e4, e5, e6, e7, e8, e9, e10, e11, e12, beq_self_eq_true, decide_true]) | (with_reducible refine Run.gC ?_ ?_ <;> intro hb <;> try simp only [hb]) | (with_reducible refine Run.gG ?_ ?_ <;> intro hb <;> try simp only [hb]) | (with_reducible refine Run.gQ ?_ ?_ <;> intro hb <;> try simp only [hb])))
end Go.Fv.Tr
