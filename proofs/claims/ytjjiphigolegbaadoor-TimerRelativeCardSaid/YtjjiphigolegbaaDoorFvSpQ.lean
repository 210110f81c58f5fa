/-
  The law TimerOne, run to its end. By an AI agent; no person has read it.
-/
import Derived.Test.YtjjiphigolegbaaDoorFvSpP
set_option linter.unusedVariables false
set_option linter.unusedSimpArgs false
set_option linter.unusedSectionVars false
/-! The law TimerOne, run to its end. -/
namespace Go.Fv.Tr
open Go Go.Fv Go.Fv.Pl Go.Proofs
set_option linter.unusedSimpArgs false
set_option linter.unusedVariables false
variable {G : Nat → Option (List V)}

theorem dueOf_mem {ts : List Tm} (hn : (ts.map Tm.proc).Nodup) {t : Tm} (ht : t ∈ ts) : dueOf ts t.proc = t.due := by
  unfold dueOf
  cases hf : ts.find? (fun x => x.proc == t.proc) with
  | none => exact absurd (List.find?_eq_none.1 hf t ht) (by simp)
  | some x =>
    have h1 := List.mem_of_find?_eq_some hf
    have h2 := List.find?_some hf
    have := nodup_inj hn h1 ht (by simpa using h2)
    subst this; rfl
theorem dueOf_none {ts : List Tm} {p : Int} (h : ¬ timed ts p) : dueOf ts p = 0 := by
  unfold dueOf
  cases hf : ts.find? (fun x => x.proc == p) with
  | none => rfl
  | some x =>
    refine absurd (List.mem_map.2 ⟨x, List.mem_of_find?_eq_some hf, ?_⟩) h
    simpa using List.find?_some hf
theorem timed_congr {a b : List Tm} {q : Int} (h : ∀ t : Tm, t.proc = q → (t ∈ a ↔ t ∈ b)) : timed a q ↔ timed b q :=
  ⟨fun g => by obtain ⟨t, ht, e⟩ := List.mem_map.1 g; exact List.mem_map.2 ⟨t, (h t e).1 ht, e⟩, fun g => by obtain ⟨t, ht, e⟩ := List.mem_map.1 g; exact List.mem_map.2 ⟨t, (h t e).2 ht, e⟩⟩
theorem dueOf_congr {a b : List Tm} {q : Int} (ha : (a.map Tm.proc).Nodup) (hb : (b.map Tm.proc).Nodup) (h : ∀ t : Tm, t.proc = q → (t ∈ a ↔ t ∈ b)) : dueOf a q = dueOf b q := by
  by_cases ht : timed a q
  · obtain ⟨t, h1, e⟩ := List.mem_map.1 ht
    rw [← e, dueOf_mem ha h1, dueOf_mem hb ((h t e).1 h1)]
  · rw [dueOf_none ht, dueOf_none fun g => ht ((timed_congr h).2 g)]
theorem mem_wo {ts : List Tm} {p : Int} {t : Tm} : t ∈ wo ts p ↔ t ∈ ts ∧ t.proc ≠ p := by simp [wo]
theorem wo_ok {n : Int} {ts : List Tm} (h : TsOk n ts) (p : Int) : TsOk n (wo ts p) := h.filter _
theorem setT_ok {n : Int} {ts : List Tm} (h : TsOk n ts) {p d : Int} (hr : right n ⟨p, d⟩) : TsOk n (setT ts p d) := by
  refine isort_ok (fun t ht => ?_) ?_
  · rcases List.mem_append.1 ht with g | g
    · exact h.mem t (mem_wo.1 g).1
    · rw [List.mem_singleton] at g; subst g; exact hr
  · rw [List.map_append, List.nodup_append]
    refine ⟨(wo_ok h p).nodup, by simp, fun a ha b hb e => ?_⟩
    obtain ⟨t, ht, rfl⟩ := List.mem_map.1 ha
    simp only [List.map_cons, List.map_nil, List.mem_singleton] at hb
    exact (mem_wo.1 ht).2 (e.trans hb)
theorem mem_setT {ts : List Tm} {p d : Int} {t : Tm} : t ∈ setT ts p d ↔ (t ∈ ts ∧ t.proc ≠ p) ∨ t = ⟨p, d⟩ := by
  unfold setT
  rw [isort_mem, List.mem_append, List.mem_singleton, mem_wo]
theorem wo_setT {n : Int} {ts : List Tm} (h : TsOk n ts) {p d : Int} (hr : right n ⟨p, d⟩) : wo (setT ts p d) p = wo ts p := by
  refine sorted_eq (wo_ok (setT_ok h hr) p).pairwise (wo_ok h p).pairwise ?_
  have : (wo (setT ts p d) p).Perm (wo (wo ts p ++ [⟨p, d⟩]) p) := (isort_perm _).filter _
  refine this.trans ?_
  have e : wo (wo ts p ++ [⟨p, d⟩]) p = wo ts p := by
    unfold wo
    rw [List.filter_append, List.filter_filter, List.filter_cons_of_neg (by simp), List.filter_nil, List.append_nil]
    exact List.filter_congr fun a _ => by simp
  rw [e]
theorem timed_setT {ts : List Tm} {p d : Int} : timed (setT ts p d) p := List.mem_map.2 ⟨⟨p, d⟩, mem_setT.2 (.inr rfl), rfl⟩
theorem not_timed_wo {ts : List Tm} {p : Int} : ¬ timed (wo ts p) p := fun h => by
  obtain ⟨t, ht, e⟩ := List.mem_map.1 h
  exact (mem_wo.1 ht).2 e

theorem set_eq (hG : TErrs G) (n : Nat) {x : V} {ts : List Tm} (hx : Sls x 2 (ts.map tmRow)) (hok : TsOk 8 ts) {p d : Int} (hr : right 8 ⟨p, d⟩) :
    ∃ y, callV (cfg G) (sem (cfg G) (n + 7)) 58 [x, .int .i64 p, .int .i64 d] = M.ret (.tuple [y, .nili]) ∧ Sls y 2 ((setT ts p d).map tmRow) := by
  have h8 := ts_len8 hok
  obtain ⟨r, e, h⟩ := (set_spec hG n hx (by unfold big; omega) p d).eq rfl (by simp [hx.closedV, cI])
  rcases h with ⟨_, _, y, rfl, h1⟩ | ⟨_, h, _⟩ | ⟨h, _⟩
  · exact ⟨y, e, h1⟩
  · exact absurd hr h
  · exact absurd hok h
theorem drop_eq (hG : TErrs G) (n : Nat) {x : V} {ts : List Tm} (hx : Sls x 2 (ts.map tmRow)) (hok : TsOk 8 ts) (p : Int) :
    ∃ y, callV (cfg G) (sem (cfg G) (n + 5)) 59 [x, .int .i64 p] = M.ret (.tuple [y, .bool (decide (timed ts p)), .nili]) ∧ Sls y 2 ((wo ts p).map tmRow) := by
  have h8 := ts_len8 hok
  obtain ⟨r, e, h⟩ := (drop_spec hG n hx (by unfold big; omega) p).eq rfl (by simp [hx.closedV, cI])
  rcases h with ⟨_, y, rfl, h1⟩ | ⟨h, _⟩
  · exact ⟨y, e, h1⟩
  · exact absurd hok h
theorem check_eq (hG : TErrs G) (n : Nat) {x : V} {ts : List Tm} (hx : Sls x 2 (ts.map tmRow)) (hok : TsOk 8 ts) : callV (cfg G) (sem (cfg G) (n + 5)) 60 [x, .int .i64 8] = M.ret .nili := by
  have h8 := ts_len8 hok
  rw [check8 hG n hx (by unfold big; omega)]
  show M.ret (orNil _ _) = _
  rw [orNil, if_pos hok]
theorem find_eq (n : Nat) {x : V} {ts : List Tm} (hx : Sls x 2 (ts.map tmRow)) (hok : TsOk 8 ts) (p : Int) : callV (cfg G) (sem (cfg G) (n + 1)) 61 [x, .int .i64 p] = M.ret (.tuple [.int .i64 (dueOf ts p), .bool (decide (timed ts p))]) :=
  find_spec n hx (by have := ts_len8 hok; unfold big; omega) p

set_option maxRecDepth 20000 in
theorem one_run (hG : TErrs G) (n : Nat) {x : V} {raw : List Tm} (hx : Sls x 2 (raw.map tmRow)) (hl : raw.length ≤ big) (pr du : Int) : ∃ v H', sem (cfg G) (n + 9) 12 [x, .int .i64 pr, .int .i64 du] Heap.empty = some (v, H') ∧ v = .bool true := by
  show Run (sem (cfg G) (n + 9) 12 [x, .int .i64 pr, .int .i64 du]) Heap.empty fun v _ => v = .bool true
  rw [ferry_ferrylaw08_TimerOne_eq]
  obtain ⟨r, e1, y, rfl, hy⟩ := formed_spec hG n hx hl
  have hok := form_ok raw
  generalize isort (formL raw) = ts at hy hok
  have hp := modI_lt pr (m := 8) (by omega)
  have hd := modI_lt du (m := 1010001) (by omega)
  have hr : right 8 ⟨modI pr 8, modI du 1010001⟩ := by simp only [right]; omega
  have cp := conv_i (k := .u64) (n := pr) (m := 8) (by decide) (by decide)
  have cd := conv_i (k := .u64) (n := du) (m := 1010001) (by decide) (by decide)
  generalize hpe : modI pr 8 = p at *
  generalize hde : modI du 1010001 = d at *
  have h8 := ts_len8 hok
  have hs := setT_ok hok hr
  have hg := wo_ok hs p
  have hle := wo_ok hok p
  have hws := wo_setT hok hr
  obtain ⟨c1, k1, s1⟩ := copied_eq (G := G) (n + 7) hy h8
  obtain ⟨set, k2, s2⟩ := set_eq hG (n + 1) s1 hok hr
  obtain ⟨c2, k3, s3⟩ := copied_eq (G := G) (n + 7) s2 (ts_len8 hs)
  obtain ⟨gone, k4, s4⟩ := drop_eq hG (n + 3) s3 hs p
  obtain ⟨least, k5, s5⟩ := drop_eq hG (n + 3) s1 hok p
  have k6 := check_eq hG (n + 3) s2 hs
  have k7 := check_eq hG (n + 3) s4 hg
  have k8 := find_eq (G := G) (n + 7) hy hok
  have k9 := find_eq (G := G) (n + 7) s2 hs
  have k10 := find_eq (G := G) (n + 7) s4 hg
  have t1 : decide (timed (setT ts p d) p) = true := decide_eq_true timed_setT
  have t2 : decide (timed (wo (setT ts p d) p) p) = false := decide_eq_false not_timed_wo
  have t3 : dueOf (setT ts p d) p = d := by
    have := dueOf_mem hs.nodup (mem_setT.2 (.inr rfl) : (⟨p, d⟩ : Tm) ∈ setT ts p d)
    exact this
  rw [hws] at s4
  have k11 := same08_spec (G := G) (n + 7) s4 s5 (by have := ts_len8 hle; unfold big; omega)
  simp only [ferry_ferrylaw08_TimerOne]
  (repeat' (first | (simp only [Run.bind, Run.ret, Run.lift, condT, condF, condN, guardTT, guardFT, guardTF, guardFF, guardS, guardNT, guardNF, Run.fail, Run.getN, Run.guardM, Run.qret, Run.newA, Run.newI, Run.newB, nil_ptr, Run.load1i, Run.load1p, Run.loadNi, Run.loadNp, Run.storeN, Run.out, Stp.normal, Stp.exit, Stp.ret, Heap.add_blk, Heap.add_next, Heap.add_floor, Heap.set_blk, Heap.set_next, Heap.set_floor, Heap.q_blk, Heap.q_next, Heap.q_floor, Heap.empty_next, Heap.empty_floor, padd_ptr, padd_iptr, arith_lss, arith_leq, arith_gtr, arith_geq, eq_int, eq_bool, eq_str, eq_nili, eq_ifnil, eq_nilif, pick_and, pick_or, pick_t, pick_f, un_not, extractV, cells_agg, cells_int, cells_bool, cells_str, cells_nils, cells_emp, cells_imm, cells_ref, cells_nili, cells_iface, cells_ptr, cells_nilp, cells_fn, Option.bind_some, Option.some.injEq, exists_eq_left', List.getD_cons_zero, List.getD_cons_succ, List.getElem?_cons_zero, List.getElem?_cons_succ, List.length_cons, List.length_nil, List.set_cons_zero, List.take_zero, List.drop_zero, List.nil_append, Nat.zero_add, Nat.add_zero, Nat.reduceAdd, Nat.reduceLT, Nat.reduceLeDiff, Nat.reduceEqDiff, if_true, if_false, ite_true, ite_false, reduceIte, Bool.true_and, Bool.false_and, Bool.and_true, Bool.and_false, Bool.true_or, Bool.false_or, Bool.or_true, Bool.or_false, true_and, and_true, Nat.le_refl, Nat.zero_le, List.drop_succ_cons, List.take_succ_cons, List.take_nil, List.drop_nil, List.append_nil, List.cons_append, Nat.lt_add_one, Nat.lt_irrefl, Nat.mul_one, Bool.not_true, Bool.not_false, Nat.zero_lt_succ, e1, known_spec hG n, conv_u, rem_u (show (8 : Int) ≠ 0 by decide), rem_u (show (1010001 : Int) ≠ 0 by decide), cp, cd, k1, k2, k3, k4, k5, k6, k7, k8, k9, k10, k11, t1, t2, t3, decide_true, beq_self_eq_true]) | (with_reducible refine Run.gC ?_ ?_ <;> intro hb <;> try simp only [hb]) | (with_reducible refine Run.gG ?_ ?_ <;> intro hb <;> try simp only [hb]) | (with_reducible refine Run.gQ ?_ ?_ <;> intro hb <;> try simp only [hb])))
  refine Run.loop (N := 8) (fun i s H => s = [.bool false, .int .i64 (i : Nat)]) rfl ?_
  rintro i s H hi rfl
  simp only [ferry_ferrylaw08_TimerOne_l1]
  by_cases hlt : i < 8
  · have hl8 : decide ((i : Int) < 8) = true := decide_eq_true (by omega)
    by_cases hq : (i : Int) = p
    · have hq' : ((i : Int) == p) = true := by simpa using hq
      (repeat' (first | (simp only [Run.bind, Run.ret, Run.lift, condT, condF, condN, guardTT, guardFT, guardTF, guardFF, guardS, guardNT, guardNF, Run.fail, Run.getN, Run.guardM, Run.qret, Run.newA, Run.newI, Run.newB, nil_ptr, Run.load1i, Run.load1p, Run.loadNi, Run.loadNp, Run.storeN, Run.out, Stp.normal, Stp.exit, Stp.ret, Heap.add_blk, Heap.add_next, Heap.add_floor, Heap.set_blk, Heap.set_next, Heap.set_floor, Heap.q_blk, Heap.q_next, Heap.q_floor, Heap.empty_next, Heap.empty_floor, padd_ptr, padd_iptr, arith_lss, arith_leq, arith_gtr, arith_geq, eq_int, eq_bool, eq_str, eq_nili, eq_ifnil, eq_nilif, pick_and, pick_or, pick_t, pick_f, un_not, extractV, cells_agg, cells_int, cells_bool, cells_str, cells_nils, cells_emp, cells_imm, cells_ref, cells_nili, cells_iface, cells_ptr, cells_nilp, cells_fn, Option.bind_some, Option.some.injEq, exists_eq_left', List.getD_cons_zero, List.getD_cons_succ, List.getElem?_cons_zero, List.getElem?_cons_succ, List.length_cons, List.length_nil, List.set_cons_zero, List.take_zero, List.drop_zero, List.nil_append, Nat.zero_add, Nat.add_zero, Nat.reduceAdd, Nat.reduceLT, Nat.reduceLeDiff, Nat.reduceEqDiff, if_true, if_false, ite_true, ite_false, reduceIte, Bool.true_and, Bool.false_and, Bool.and_true, Bool.and_false, Bool.true_or, Bool.false_or, Bool.or_true, Bool.or_false, true_and, and_true, Nat.le_refl, Nat.zero_le, List.drop_succ_cons, List.take_succ_cons, List.take_nil, List.drop_nil, List.append_nil, List.cons_append, Nat.lt_add_one, Nat.lt_irrefl, Nat.mul_one, Bool.not_true, Bool.not_false, Nat.zero_lt_succ, hl8, k8, k9, k10, addN hlt (show 8 ≤ big by decide), hq']) | (with_reducible refine Run.gC ?_ ?_ <;> intro hb <;> try simp only [hb]) | (with_reducible refine Run.gG ?_ ?_ <;> intro hb <;> try simp only [hb]) | (with_reducible refine Run.gQ ?_ ?_ <;> intro hb <;> try simp only [hb])))
      exact hlt
    · have hq' : ((i : Int) == p) = false := by simpa using hq
      have m1 : ∀ t : Tm, t.proc = (i : Int) → (t ∈ setT ts p d ↔ t ∈ ts) := fun t ht => by
        rw [mem_setT]
        exact ⟨fun h => h.elim (fun h => h.1) (fun h => absurd (ht.symm.trans (congrArg Tm.proc h)) hq), fun h => .inl ⟨h, fun e => hq (ht.symm.trans e)⟩⟩
      have m2 : ∀ t : Tm, t.proc = (i : Int) → (t ∈ wo (setT ts p d) p ↔ t ∈ ts) := fun t ht => by
        rw [hws, mem_wo]
        exact ⟨fun h => h.1, fun h => ⟨h, fun e => hq (ht.symm.trans e)⟩⟩
      have d1 : dueOf (setT ts p d) i = dueOf ts i := dueOf_congr hs.nodup hok.nodup m1
      have d2 : dueOf (wo (setT ts p d) p) i = dueOf ts i := dueOf_congr hg.nodup hok.nodup m2
      have d3 : decide (timed (setT ts p d) i) = decide (timed ts i) := decide_eq_decide.2 (timed_congr m1)
      have d4 : decide (timed (wo (setT ts p d) p) i) = decide (timed ts i) := decide_eq_decide.2 (timed_congr m2)
      (repeat' (first | (simp only [Run.bind, Run.ret, Run.lift, condT, condF, condN, guardTT, guardFT, guardTF, guardFF, guardS, guardNT, guardNF, Run.fail, Run.getN, Run.guardM, Run.qret, Run.newA, Run.newI, Run.newB, nil_ptr, Run.load1i, Run.load1p, Run.loadNi, Run.loadNp, Run.storeN, Run.out, Stp.normal, Stp.exit, Stp.ret, Heap.add_blk, Heap.add_next, Heap.add_floor, Heap.set_blk, Heap.set_next, Heap.set_floor, Heap.q_blk, Heap.q_next, Heap.q_floor, Heap.empty_next, Heap.empty_floor, padd_ptr, padd_iptr, arith_lss, arith_leq, arith_gtr, arith_geq, eq_int, eq_bool, eq_str, eq_nili, eq_ifnil, eq_nilif, pick_and, pick_or, pick_t, pick_f, un_not, extractV, cells_agg, cells_int, cells_bool, cells_str, cells_nils, cells_emp, cells_imm, cells_ref, cells_nili, cells_iface, cells_ptr, cells_nilp, cells_fn, Option.bind_some, Option.some.injEq, exists_eq_left', List.getD_cons_zero, List.getD_cons_succ, List.getElem?_cons_zero, List.getElem?_cons_succ, List.length_cons, List.length_nil, List.set_cons_zero, List.take_zero, List.drop_zero, List.nil_append, Nat.zero_add, Nat.add_zero, Nat.reduceAdd, Nat.reduceLT, Nat.reduceLeDiff, Nat.reduceEqDiff, if_true, if_false, ite_true, ite_false, reduceIte, Bool.true_and, Bool.false_and, Bool.and_true, Bool.and_false, Bool.true_or, Bool.false_or, Bool.or_true, Bool.or_false, true_and, and_true, Nat.le_refl, Nat.zero_le, List.drop_succ_cons, List.take_succ_cons, List.take_nil, List.drop_nil, List.append_nil, List.cons_append, Nat.lt_add_one, Nat.lt_irrefl, Nat.mul_one, Bool.not_true, Bool.not_false, Nat.zero_lt_succ, hl8, k8, k9, k10, addN hlt (show 8 ≤ big by decide), hq', d1, d2, d3, d4, beq_self_eq_true]) | (with_reducible refine Run.gC ?_ ?_ <;> intro hb <;> try simp only [hb]) | (with_reducible refine Run.gG ?_ ?_ <;> intro hb <;> try simp only [hb]) | (with_reducible refine Run.gQ ?_ ?_ <;> intro hb <;> try simp only [hb])))
      exact hlt
  · have hl8 : decide ((i : Int) < 8) = false := decide_eq_false (by omega)
    (repeat' (first | (simp only [Run.bind, Run.ret, Run.lift, condT, condF, condN, guardTT, guardFT, guardTF, guardFF, guardS, guardNT, guardNF, Run.fail, Run.getN, Run.guardM, Run.qret, Run.newA, Run.newI, Run.newB, nil_ptr, Run.load1i, Run.load1p, Run.loadNi, Run.loadNp, Run.storeN, Run.out, Stp.normal, Stp.exit, Stp.ret, Heap.add_blk, Heap.add_next, Heap.add_floor, Heap.set_blk, Heap.set_next, Heap.set_floor, Heap.q_blk, Heap.q_next, Heap.q_floor, Heap.empty_next, Heap.empty_floor, padd_ptr, padd_iptr, arith_lss, arith_leq, arith_gtr, arith_geq, eq_int, eq_bool, eq_str, eq_nili, eq_ifnil, eq_nilif, pick_and, pick_or, pick_t, pick_f, un_not, extractV, cells_agg, cells_int, cells_bool, cells_str, cells_nils, cells_emp, cells_imm, cells_ref, cells_nili, cells_iface, cells_ptr, cells_nilp, cells_fn, Option.bind_some, Option.some.injEq, exists_eq_left', List.getD_cons_zero, List.getD_cons_succ, List.getElem?_cons_zero, List.getElem?_cons_succ, List.length_cons, List.length_nil, List.set_cons_zero, List.take_zero, List.drop_zero, List.nil_append, Nat.zero_add, Nat.add_zero, Nat.reduceAdd, Nat.reduceLT, Nat.reduceLeDiff, Nat.reduceEqDiff, if_true, if_false, ite_true, ite_false, reduceIte, Bool.true_and, Bool.false_and, Bool.and_true, Bool.and_false, Bool.true_or, Bool.false_or, Bool.or_true, Bool.or_false, true_and, and_true, Nat.le_refl, Nat.zero_le, List.drop_succ_cons, List.take_succ_cons, List.take_nil, List.drop_nil, List.append_nil, List.cons_append, Nat.lt_add_one, Nat.lt_irrefl, Nat.mul_one, Bool.not_true, Bool.not_false, Nat.zero_lt_succ, hl8]) | (with_reducible refine Run.gC ?_ ?_ <;> intro hb <;> try simp only [hb]) | (with_reducible refine Run.gG ?_ ?_ <;> intro hb <;> try simp only [hb]) | (with_reducible refine Run.gQ ?_ ?_ <;> intro hb <;> try simp only [hb])))
end Go.Fv.Tr
