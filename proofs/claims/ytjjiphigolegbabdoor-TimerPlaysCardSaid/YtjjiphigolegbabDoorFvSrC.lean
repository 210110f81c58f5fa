/-
  The document's timers, by process: what a list says; is it in form. By an AI agent; no person has read it.
-/
import Derived.Test.YtjjiphigolegbabDoorFvSrB
set_option linter.unusedVariables false
set_option linter.unusedSimpArgs false
set_option linter.unusedSectionVars false
/-! The document's timers, by process: what a list says; is it in form. -/
namespace Go.Fv.Tr
open Go Go.Fv Go.Fv.Pl Go.Proofs
set_option linter.unusedSimpArgs false
set_option linter.unusedVariables false
variable {G : Nat → Option (List V)}

instance (ts : List Tm) : Decidable (allRight ts) := by unfold allRight; infer_instance
def rdOf (ts : List Tm) : List Int := if allRight ts ∧ (ts.map Tm.proc).Nodup then rd ts else no8
def rdCode (ts : List Tm) : Int := if allRight ts then (if (ts.map Tm.proc).Nodup then 0 else 12) else 4
theorem rdOf_len (ts : List Tm) : (rdOf ts).length = 8 := by unfold rdOf; split; exact rd_len _; rfl
theorem allRight_snoc {l : List Tm} {t : Tm} : allRight (l ++ [t]) ↔ allRight l ∧ right 8 t := by
  unfold allRight
  simp only [List.mem_append, List.mem_singleton]
  exact ⟨fun h => ⟨fun u hu => h u (.inl hu), h t (.inr rfl)⟩, fun h u hu => hu.elim (h.1 u) fun e => e ▸ h.2⟩
theorem procs_snoc {l : List Tm} {t : Tm} : ((l ++ [t]).map Tm.proc).Nodup ↔ (l.map Tm.proc).Nodup ∧ ¬ timed l t.proc := by
  rw [List.map_append, List.nodup_append]
  unfold timed
  constructor
  · rintro ⟨h1, _, h3⟩
    exact ⟨h1, fun h => h3 _ h _ (by simp) rfl⟩
  · rintro ⟨h1, h2⟩
    refine ⟨h1, by simp, fun a ha b hb e => ?_⟩
    simp only [List.map_cons, List.map_nil, List.mem_singleton] at hb
    exact h2 (by rw [← hb, ← e]; exact ha)

set_option maxRecDepth 20000 in
theorem read08_spec (n : Nat) {x : V} {ts : List Tm} (hx : Sls x 2 (ts.map tmRow)) (hl : ts.length ≤ big) :
    callV (cfg G) (sem (cfg G) (n + 2)) 65 [x] = M.ret (.tuple [.agg (dv (rdOf ts)), .int .i64 (rdCode ts)]) := by
  refine callV_pure rfl (by simp [hx.closedV]) ?_
  rw [ferry_ferryref08_Read_eq]
  simp only [ferry_ferryref08_Read, dv_zero]
  have th : ∀ (d : List Int) (c : Int) (H : Heap), thawV true H (.tuple [.agg (dv d), .int .i64 c]) = some (.tuple [.agg (dv d), .int .i64 c]) := fun d c H => thawV_tup (mapM2 (thaw2_dv _ _ _) (thaw2_int _ _ _ _))
  (repeat' (first | (simp only [wp, extractV, exists_eq_left', if_true, if_false, ite_true, ite_false, reduceIte, Nat.reduceAdd, Nat.reduceLT, Nat.reduceLeDiff, Nat.reduceEqDiff, none08_spec, dv_len, len_zero, no8_len, dv_drop len_zero]) | (with_reducible refine Run.gC ?_ ?_ <;> intro hb <;> try simp only [hb]) | (with_reducible refine Run.gG ?_ ?_ <;> intro hb <;> try simp only [hb]) | (with_reducible refine Run.gQ ?_ ?_ <;> intro hb <;> try simp only [hb])))
  refine Run.loop (N := ts.length) (fun i s H => s = [.int .i64 0, .bool (decide (¬ ((ts.take i).map Tm.proc).Nodup)), .int .i64 (i : Nat)] ∧ H.floor = 0 ∧ 1 < H.next ∧ H.blk 0 = some ⟨8, [dv (List.replicate 8 0)]⟩ ∧ H.blk 1 = some ⟨8, [dv (rd (ts.take i))]⟩ ∧ allRight (ts.take i))
    ⟨rfl, rfl, by simp [Heap.add_next, Heap.set_next], by simp [Heap.set_blk, Heap.add_blk, Heap.add_next, Heap.empty_next], by simp [Heap.set_blk, Heap.add_blk, Heap.add_next, Heap.empty_next]; rfl, by simp [allRight]⟩ ?_
  rintro i s H hi ⟨rfl, hf, hn, hb0, hb1, hok⟩
  by_cases hlt : i < ts.length
  · have h2 := hx.idx (k := .i64) (i := i) (by simpa using hlt)
    simp only [List.getElem_map] at h2
    have hz0 : ¬ 0 = H.next := by omega
    have hz1 : ¬ 1 = H.next := by omega
    simp only [ferry_ferryref08_Read_l1]
    by_cases hr : right 8 ts[i]
    · have h1 := hr.1; have h3 := hr.2.1; have h4 := hr.2.2.1; have h5 := hr.2.2.2
      have hneg := rd_neg hok (p := ts[i].proc.toNat) (by omega)
      rw [Int.toNat_of_nonneg h1] at hneg
      have hlen := rd_len (ts.take i)
      have d1 := decide_eq_false (show ¬ ts[i].proc < 0 by omega)
      have d2 := decide_eq_false (show ¬ 8 ≤ ts[i].proc by omega)
      have d3 := decide_eq_false (show ¬ ts[i].due < 0 by omega)
      have d4 := decide_eq_false (show ¬ 1010000 < ts[i].due by omega)
      have hlt8 : ts[i].proc.toNat < (rd (ts.take i)).length := by omega
      have hle8 : ts[i].proc.toNat + 1 ≤ 8 := by omega
      have ha : ∀ {l k : Nat}, aidxV 8 1 (.ptr l k 0) (.int .i64 ts[i].proc) = some (.ptr l k ts[i].proc.toNat) := aidx8 h1 h3
      (repeat' (first | (simp only [wp, extractV, exists_eq_left', if_true, if_false, ite_true, ite_false, reduceIte, Nat.reduceAdd, Nat.reduceLT, Nat.reduceLeDiff, Nat.reduceEqDiff, hx.len, List.length_map, ltT hlt, h2, tm_len, tm_take, tm_proc, tm_due, hf, hb0, hb1, hz0, hz1, d1, d2, d3, d4, ha, dv_len, hlen, dv_get hlt8, dv_set hlt8, hle8, addN hlt hl]) | (with_reducible refine Run.gC ?_ ?_ <;> intro hb <;> try simp only [hb]) | (with_reducible refine Run.gG ?_ ?_ <;> intro hb <;> try simp only [hb]) | (with_reducible refine Run.gQ ?_ ?_ <;> intro hb <;> try simp only [hb])))
      all_goals
        refine ⟨hlt, ?_, by omega, by rw [take_snoc hlt, rd_snoc], by rw [take_snoc hlt, allRight_snoc]; exact ⟨hok, hr⟩⟩
        refine congrArg (fun b => [V.int .i64 0, b, V.int .i64 ((i + 1 : Nat) : Int)]) (boolI ?_)
        rw [take_snoc hlt, procs_snoc]
        simp only [decide_eq_true_eq, decide_eq_false_iff_not, true_iff, decide_not, Bool.not_eq_true', Bool.not_eq_false'] at *
      · exact fun g => hb g.1
      · rw [← hneg]
        exact ⟨fun g h => by have := h.2; omega, fun g => by by_cases g2 : (rd (ts.take i)).getD ts[i].proc.toNat (-1) < 0 <;> simp_all⟩
    · have hbad : ¬ allRight ts := fun g => hr (g _ (List.getElem_mem hlt))
      (repeat' (first | (simp only [wp, extractV, exists_eq_left', if_true, if_false, ite_true, ite_false, reduceIte, Nat.reduceAdd, Nat.reduceLT, Nat.reduceLeDiff, Nat.reduceEqDiff, hx.len, List.length_map, ltT hlt, h2, tm_len, tm_take, tm_proc, tm_due, hf, hb0, hb1, hz0, hz1, none08_spec, dv_len, len_zero, no8_len, dv_drop len_zero, dv_take no8_len]) | (with_reducible refine Run.gC ?_ ?_ <;> intro hb <;> try simp only [hb]) | (with_reducible refine Run.gG ?_ ?_ <;> intro hb <;> try simp only [hb]) | (with_reducible refine Run.gQ ?_ ?_ <;> intro hb <;> try simp only [hb])))
      all_goals try exact (th _ _ _).trans (by rw [rdOf, rdCode, if_neg fun g => hbad g.1, if_neg hbad])
      all_goals
        exfalso
        simp only [decide_eq_true_eq, decide_eq_false_iff_not] at *
        exact hr ⟨by omega, by omega, by omega, by omega⟩
  · simp only [ferry_ferryref08_Read_l1]
    have htk : ts.take i = ts := take_all (by omega)
    rw [htk] at hb1 hok
    have hlen := rd_len ts
    have e1 : allRight ts := hok
    (repeat' (first | (simp only [wp, extractV, exists_eq_left', if_true, if_false, ite_true, ite_false, reduceIte, Nat.reduceAdd, Nat.reduceLT, Nat.reduceLeDiff, Nat.reduceEqDiff, hx.len, List.length_map, ltF hlt, hf, hb0, hb1, none08_spec, dv_len, len_zero, no8_len, hlen, dv_drop len_zero, dv_take no8_len, dv_take hlen, htk]) | (with_reducible refine Run.gC ?_ ?_ <;> intro hb <;> try simp only [hb]) | (with_reducible refine Run.gG ?_ ?_ <;> intro hb <;> try simp only [hb]) | (with_reducible refine Run.gQ ?_ ?_ <;> intro hb <;> try simp only [hb])))
    · have hb : ¬ (ts.map Tm.proc).Nodup := of_decide_eq_true hb
      exact (th _ _ _).trans (by rw [rdOf, rdCode, if_neg fun g => hb g.2, if_pos e1, if_neg hb])
    · have hb : (ts.map Tm.proc).Nodup := by simpa using hb
      exact (th _ _ _).trans (by rw [rdOf, rdCode, if_pos ⟨e1, hb⟩, if_pos e1, if_pos hb])

theorem rdOf_ok {ts : List Tm} (h : TsOk 8 ts) : rdOf ts = rd ts := by unfold rdOf; rw [if_pos ⟨h.mem, h.nodup⟩]
theorem rdCode_ok {ts : List Tm} (h : TsOk 8 ts) : rdCode ts = 0 := by unfold rdCode; rw [if_pos (show allRight ts from h.mem), if_pos h.nodup]
set_option maxRecDepth 20000 in
theorem form08_spec (n : Nat) {x : V} {ts : List Tm} (hx : Sls x 2 (ts.map tmRow)) (hl : ts.length ≤ big) :
    ∃ d, callV (cfg G) (sem (cfg G) (n + 3)) 63 [x] = M.ret (.tuple [.agg (dv d), .bool (decide (TsOk 8 ts))]) ∧ d.length = 8 ∧ (TsOk 8 ts → d = rd ts) := by
  have th : ∀ (d : List Int) (c : Bool) (H : Heap), thawV true H (.tuple [.agg (dv d), .bool c]) = some (.tuple [.agg (dv d), .bool c]) := fun d c H => thawV_tup (mapM2 (thaw2_dv _ _ _) (thaw2_bool _ _ _))
  have hrl := rdOf_len ts
  by_cases hc : rdCode ts = 0
  · refine ⟨rd ts, callV_pure rfl (by simp [hx.closedV]) ?_, rd_len ts, fun _ => rfl⟩
    have hr : allRight ts ∧ (ts.map Tm.proc).Nodup := by
      unfold rdCode at hc
      split at hc
      · split at hc
        · exact ⟨by assumption, by assumption⟩
        · cases hc
      · cases hc
    have hrd : rdOf ts = rd ts := by unfold rdOf; rw [if_pos hr]
    have hlen := rd_len ts
    obtain ⟨r, e1, h1⟩ := (list08_spec (G := G) (n + 1) hlen).eq rfl (by simp [dv_closed])
    have hl1 : (lst (rd ts)).length ≤ big := by have := lst_len (rd ts); unfold big; omega
    have e2 := same08_spec (G := G) (n + 1) h1 hx hl1
    have e3 : decide (lst (rd ts) = ts) = decide (TsOk 8 ts) := decide_eq_decide.2 (TsOk_iff_rd hr.1 hr.2)
    rw [ferry_ferryref08_Form_eq]
    simp only [ferry_ferryref08_Form, dv_zero]
    (repeat' (first | (simp only [wp, extractV, exists_eq_left', if_true, if_false, ite_true, ite_false, reduceIte, Nat.reduceAdd, Nat.reduceLT, Nat.reduceLeDiff, Nat.reduceEqDiff, read08_spec n hx hl, dv_len, hrl, len_zero, dv_drop len_zero, hc, hrd, hlen, dv_take hlen, e1, e2, e3, beq_self_eq_true]) | (with_reducible refine Run.gC ?_ ?_ <;> intro hb <;> try simp only [hb]) | (with_reducible refine Run.gG ?_ ?_ <;> intro hb <;> try simp only [hb]) | (with_reducible refine Run.gQ ?_ ?_ <;> intro hb <;> try simp only [hb])))
    exact th _ _ _
  · refine ⟨no8, callV_pure rfl (by simp [hx.closedV]) ?_, rfl, fun h => absurd (rdCode_ok h) hc⟩
    have hno : decide (TsOk 8 ts) = false := decide_eq_false fun h => hc (rdCode_ok h)
    have hc' : (rdCode ts == 0) = false := by simpa using hc
    rw [ferry_ferryref08_Form_eq]
    simp only [ferry_ferryref08_Form, dv_zero]
    (repeat' (first | (simp only [wp, extractV, exists_eq_left', if_true, if_false, ite_true, ite_false, reduceIte, Nat.reduceAdd, Nat.reduceLT, Nat.reduceLeDiff, Nat.reduceEqDiff, read08_spec n hx hl, none08_spec, dv_len, hrl, len_zero, no8_len, dv_drop len_zero, dv_take no8_len, hc', hno]) | (with_reducible refine Run.gC ?_ ?_ <;> intro hb <;> try simp only [hb]) | (with_reducible refine Run.gG ?_ ?_ <;> intro hb <;> try simp only [hb]) | (with_reducible refine Run.gQ ?_ ?_ <;> intro hb <;> try simp only [hb])))
    exact th _ _ _
end Go.Fv.Tr
