/-
  The law TimerSteps, run to its end. By an AI agent; no person has read it.
-/
import Derived.Test.YtjjiphigolegbaaDoorFvSpO
set_option linter.unusedVariables false
set_option linter.unusedSimpArgs false
set_option linter.unusedSectionVars false
/-! The law TimerSteps, run to its end. -/
namespace Go.Fv.Tr
open Go Go.Fv Go.Fv.Pl Go.Proofs
set_option linter.unusedSimpArgs false
set_option linter.unusedVariables false
variable {G : Nat → Option (List V)}

theorem sls_thaw {x : V} {sz : Nat} {rows : List (List V)} (h : Sls x sz rows) (H : Heap) : thawV true H x = some x := by
  rcases h with rfl | ⟨_, rfl | rfl⟩ <;> simp [thawV, thaw, V.flat, V.closed]
theorem copied_eq (n : Nat) {x : V} {ts : List Tm} (hx : Sls x 2 (ts.map tmRow)) (hl : ts.length ≤ 8) : ∃ r, callV (cfg G) (sem (cfg G) (n + 1)) 55 [x] = M.ret r ∧ Sls r 2 (ts.map tmRow) :=
  (copied08_spec n hx (flat_tm _) (by rw [List.length_map]; unfold room; omega)).eq rfl (by simp [hx.closedV])
theorem fire_eq (hG : TErrs G) (n : Nat) {x : V} {ts : List Tm} (hx : Sls x 2 (ts.map tmRow)) (hok : TsOk 8 ts) (now : Int) :
    ∃ y z, callV (cfg G) (sem (cfg G) (n + 5)) 54 [x, .int .i64 now] = M.ret (.tuple [y, z, .nili]) ∧ Sls y 1 ((dues ts now).map intRow) ∧ Sls z 2 ((left ts now).map tmRow) := by
  have h8 := ts_len8 hok
  obtain ⟨r, e, h⟩ := (fire_spec hG n hx (by unfold big; omega) now).eq rfl (by simp [hx.closedV, cI])
  rcases h with ⟨_, y, z, rfl, h1, h2⟩ | ⟨h, _⟩
  · exact ⟨y, z, e, h1, h2⟩
  · exact absurd hok h

theorem steps_j1 (hG : TErrs G) (n : Nat) {y : V} {ts : List Tm} (hy : Sls y 2 (ts.map tmRow)) (hok : TsOk 8 ts) {now later : Int} (hle : now ≤ later) {H : Heap} (hH : H.floor ≤ H.next) :
    Run (ferry_ferrylaw08_TimerSteps_j1 G (sem (cfg G) (n + 8)) y (.int .i64 now) (.int .i64 later)) H fun r _ => r.2.getD 0 .undef = .bool true := by
  have h8 := ts_len8 hok
  have hd := dues_left_len ts now
  have hd2 := dues_left_len (left ts now) later
  have hd3 := dues_left_len ts later
  have hdd := dues_dues hok hle
  have hll := left_left (l := ts) hle
  simp only [ferry_ferrylaw08_TimerSteps_j1]
  obtain ⟨c1, e1, s1⟩ := copied_eq (G := G) (n + 7) hy h8
  obtain ⟨a, r1, e2, s2, s3⟩ := fire_eq hG (n + 3) s1 hok now
  obtain ⟨b, r2, e3, s4, s5⟩ := fire_eq hG (n + 3) s3 (left_ok hok now) later
  obtain ⟨all, r3, e4, s6, s7⟩ := fire_eq hG (n + 3) s1 hok later
  (repeat' (first | (simp only [Run.bind, Run.ret, Run.lift, condT, condF, condN, guardTT, guardFT, guardTF, guardFF, guardS, guardNT, guardNF, Run.fail, Run.getN, Run.guardM, Run.qret, Run.newA, Run.newI, Run.newB, nil_ptr, Run.load1i, Run.load1p, Run.loadNi, Run.loadNp, Run.storeN, Run.out, Stp.normal, Stp.exit, Stp.ret, Heap.add_blk, Heap.add_next, Heap.add_floor, Heap.set_blk, Heap.set_next, Heap.set_floor, Heap.q_blk, Heap.q_next, Heap.q_floor, Heap.empty_next, Heap.empty_floor, padd_ptr, padd_iptr, arith_lss, arith_leq, arith_gtr, arith_geq, eq_int, eq_bool, eq_str, eq_nili, eq_ifnil, eq_nilif, pick_and, pick_or, pick_t, pick_f, un_not, extractV, cells_agg, cells_int, cells_bool, cells_str, cells_nils, cells_emp, cells_imm, cells_ref, cells_nili, cells_iface, cells_ptr, cells_nilp, cells_fn, Option.bind_some, Option.some.injEq, exists_eq_left', List.getD_cons_zero, List.getD_cons_succ, List.getElem?_cons_zero, List.getElem?_cons_succ, List.length_cons, List.length_nil, List.set_cons_zero, List.take_zero, List.drop_zero, List.nil_append, Nat.zero_add, Nat.add_zero, Nat.reduceAdd, Nat.reduceLT, Nat.reduceLeDiff, Nat.reduceEqDiff, if_true, if_false, ite_true, ite_false, reduceIte, Bool.true_and, Bool.false_and, Bool.and_true, Bool.and_false, Bool.true_or, Bool.false_or, Bool.or_true, Bool.or_false, true_and, and_true, Nat.le_refl, Nat.zero_le, List.drop_succ_cons, List.take_succ_cons, List.take_nil, List.drop_nil, List.append_nil, List.cons_append, Nat.lt_add_one, Nat.lt_irrefl, Nat.mul_one, Bool.not_true, Bool.not_false, Nat.zero_lt_succ, e1, e2, e3, e4, Run.slice0]) | (with_reducible refine Run.gC ?_ ?_ <;> intro hb <;> try simp only [hb]) | (with_reducible refine Run.gG ?_ ?_ <;> intro hb <;> try simp only [hb]) | (with_reducible refine Run.gQ ?_ ?_ <;> intro hb <;> try simp only [hb])))
  refine (Run.app (bytes := 8) hH (Own.emp _ _) (s2.items _) (by simp; unfold room; omega)).mono fun x1 H1 ⟨o1, f1, _⟩ => ?_
  rw [List.nil_append] at o1
  refine (Run.app (bytes := 8) (by rw [f1.floor]; exact Nat.le_trans hH f1.next) o1 (s4.items _) (by simp; unfold room; omega)).mono fun x2 H2 ⟨o2, f2, _⟩ => ?_
  rw [← List.map_append, ← hdd] at o2
  obtain ⟨w, hw, _, hs⟩ := o2.thawV (flat_ir _) true
  have hcl : (V.closedV all) = true := s6.closedV
  refine (Run.callRef (bs := [w, all]) rfl (by simp [hw, sls_thaw s6]) (by simp [hs.closedV, hcl]) (ints08_spec (n + 7) hs s6 (by unfold big; omega)) rfl).2 ?_
  rw [hll] at s5
  have hadd : arithV .add (.int .i64 ((dues ts later).length : Int)) (.int .i64 ((left ts later).length : Int)) = some (.int .i64 (ts.length : Int)) := by
    rw [arith_add (by omega) (by omega)]; congr 2; omega
  (repeat' (first | (simp only [Run.bind, Run.ret, Run.lift, condT, condF, condN, guardTT, guardFT, guardTF, guardFF, guardS, guardNT, guardNF, Run.fail, Run.getN, Run.guardM, Run.qret, Run.newA, Run.newI, Run.newB, nil_ptr, Run.load1i, Run.load1p, Run.loadNi, Run.loadNp, Run.storeN, Run.out, Stp.normal, Stp.exit, Stp.ret, Heap.add_blk, Heap.add_next, Heap.add_floor, Heap.set_blk, Heap.set_next, Heap.set_floor, Heap.q_blk, Heap.q_next, Heap.q_floor, Heap.empty_next, Heap.empty_floor, padd_ptr, padd_iptr, arith_lss, arith_leq, arith_gtr, arith_geq, eq_int, eq_bool, eq_str, eq_nili, eq_ifnil, eq_nilif, pick_and, pick_or, pick_t, pick_f, un_not, extractV, cells_agg, cells_int, cells_bool, cells_str, cells_nils, cells_emp, cells_imm, cells_ref, cells_nili, cells_iface, cells_ptr, cells_nilp, cells_fn, Option.bind_some, Option.some.injEq, exists_eq_left', List.getD_cons_zero, List.getD_cons_succ, List.getElem?_cons_zero, List.getElem?_cons_succ, List.length_cons, List.length_nil, List.set_cons_zero, List.take_zero, List.drop_zero, List.nil_append, Nat.zero_add, Nat.add_zero, Nat.reduceAdd, Nat.reduceLT, Nat.reduceLeDiff, Nat.reduceEqDiff, if_true, if_false, ite_true, ite_false, reduceIte, Bool.true_and, Bool.false_and, Bool.and_true, Bool.and_false, Bool.true_or, Bool.false_or, Bool.or_true, Bool.or_false, true_and, and_true, Nat.le_refl, Nat.zero_le, List.drop_succ_cons, List.take_succ_cons, List.take_nil, List.drop_nil, List.append_nil, List.cons_append, Nat.lt_add_one, Nat.lt_irrefl, Nat.mul_one, Bool.not_true, Bool.not_false, Nat.zero_lt_succ, decide_true, same08_spec (n + 7) s5 s7 (by unfold big; omega), s6.len, s7.len, hy.len, List.length_map, hadd, beq_self_eq_true]) | (with_reducible refine Run.gC ?_ ?_ <;> intro hb <;> try simp only [hb]) | (with_reducible refine Run.gG ?_ ?_ <;> intro hb <;> try simp only [hb]) | (with_reducible refine Run.gQ ?_ ?_ <;> intro hb <;> try simp only [hb])))

theorem steps_run (hG : TErrs G) (n : Nat) {x : V} {raw : List Tm} (hx : Sls x 2 (raw.map tmRow)) (hl : raw.length ≤ big) (now later : Int) : ∃ v H', sem (cfg G) (n + 9) 11 [x, .int .i64 now, .int .i64 later] Heap.empty = some (v, H') ∧ v = .bool true := by
  show Run (sem (cfg G) (n + 9) 11 [x, .int .i64 now, .int .i64 later]) Heap.empty fun v _ => v = .bool true
  rw [ferry_ferrylaw08_TimerSteps_eq]
  obtain ⟨r, e1, y, rfl, hy⟩ := formed_spec hG n hx hl
  have hok := form_ok raw
  simp only [ferry_ferrylaw08_TimerSteps]
  (repeat' (first | (simp only [Run.bind, Run.ret, Run.lift, condT, condF, condN, guardTT, guardFT, guardTF, guardFF, guardS, guardNT, guardNF, Run.fail, Run.getN, Run.guardM, Run.qret, Run.newA, Run.newI, Run.newB, nil_ptr, Run.load1i, Run.load1p, Run.loadNi, Run.loadNp, Run.storeN, Run.out, Stp.normal, Stp.exit, Stp.ret, Heap.add_blk, Heap.add_next, Heap.add_floor, Heap.set_blk, Heap.set_next, Heap.set_floor, Heap.q_blk, Heap.q_next, Heap.q_floor, Heap.empty_next, Heap.empty_floor, padd_ptr, padd_iptr, arith_lss, arith_leq, arith_gtr, arith_geq, eq_int, eq_bool, eq_str, eq_nili, eq_ifnil, eq_nilif, pick_and, pick_or, pick_t, pick_f, un_not, extractV, cells_agg, cells_int, cells_bool, cells_str, cells_nils, cells_emp, cells_imm, cells_ref, cells_nili, cells_iface, cells_ptr, cells_nilp, cells_fn, Option.bind_some, Option.some.injEq, exists_eq_left', List.getD_cons_zero, List.getD_cons_succ, List.getElem?_cons_zero, List.getElem?_cons_succ, List.length_cons, List.length_nil, List.set_cons_zero, List.take_zero, List.drop_zero, List.nil_append, Nat.zero_add, Nat.add_zero, Nat.reduceAdd, Nat.reduceLT, Nat.reduceLeDiff, Nat.reduceEqDiff, if_true, if_false, ite_true, ite_false, reduceIte, Bool.true_and, Bool.false_and, Bool.and_true, Bool.and_false, Bool.true_or, Bool.false_or, Bool.or_true, Bool.or_false, true_and, and_true, Nat.le_refl, Nat.zero_le, List.drop_succ_cons, List.take_succ_cons, List.take_nil, List.drop_nil, List.append_nil, List.cons_append, Nat.lt_add_one, Nat.lt_irrefl, Nat.mul_one, Bool.not_true, Bool.not_false, Nat.zero_lt_succ, e1, known_spec hG n]) | (with_reducible refine Run.gC ?_ ?_ <;> intro hb <;> try simp only [hb]) | (with_reducible refine Run.gG ?_ ?_ <;> intro hb <;> try simp only [hb]) | (with_reducible refine Run.gQ ?_ ?_ <;> intro hb <;> try simp only [hb])))
  · exact steps_j1 hG n hy hok (by have := of_decide_eq_true hb; omega) (by exact Nat.zero_le _)
  · exact steps_j1 hG n hy hok (by have := of_decide_eq_false hb; omega) (by exact Nat.zero_le _)
end Go.Fv.Tr
