/-
  The law ReadyTurns, run to its end. By an AI agent; no person has read it.
-/
import Derived.Test.YtjjiphigolegbaaDoorFvSpF
set_option linter.unusedVariables false
set_option linter.unusedSimpArgs false
set_option linter.unusedSectionVars false
/-! The law ReadyTurns, run to its end. -/
namespace Go.Fv.Tr
open Go Go.Fv Go.Fv.Pl Go.Proofs
set_option linter.unusedSimpArgs false
set_option linter.unusedVariables false
variable {G : Nat → Option (List V)}

def mostOf (f : Int → Int) (m : Int) (l : List Int) : Int := l.foldl (fun m n => if f n > m then f n else m) m
theorem mostOf_snoc (f : Int → Int) (m : Int) (l : List Int) (n : Int) : mostOf f m (l ++ [n]) = if f n > mostOf f m l then f n else mostOf f m l := by
  simp [mostOf, List.foldl_append]
theorem mostOf_ge (f : Int → Int) : ∀ (l : List Int) (m : Int), m ≤ mostOf f m l ∧ (∀ n ∈ l, f n ≤ mostOf f m l) ∧ (mostOf f m l = m ∨ ∃ n ∈ l, f n = mostOf f m l)
  | [], m => ⟨Int.le_refl _, by simp, .inl rfl⟩
  | a :: l, m => by
    have e : mostOf f m (a :: l) = mostOf f (if f a > m then f a else m) l := rfl
    obtain ⟨h1, h2, h3⟩ := mostOf_ge f l (if f a > m then f a else m)
    rw [e]
    by_cases h : f a > m
    · rw [if_pos h] at h1 h2 h3 ⊢
      refine ⟨by omega, fun n hn => ?_, ?_⟩
      · rcases List.mem_cons.1 hn with rfl | hn
        · exact h1
        · exact h2 n hn
      · rcases h3 with g | ⟨n, hn, g⟩
        · exact .inr ⟨a, by simp, g.symm⟩
        · exact .inr ⟨n, by simp [hn], g⟩
    · rw [if_neg h] at h1 h2 h3 ⊢
      refine ⟨h1, fun n hn => ?_, ?_⟩
      · rcases List.mem_cons.1 hn with rfl | hn
        · omega
        · exact h2 n hn
      · rcases h3 with g | ⟨n, hn, g⟩
        · exact .inl g
        · exact .inr ⟨n, by simp [hn], g⟩
def topOf (t : Tab) (m : Int) (q : List Int) : List Int := q.filter fun n => prio t.ps n = m
theorem topOf_snoc (t : Tab) (m n : Int) (q : List Int) : topOf t m (q ++ [n]) = topOf t m q ++ if prio t.ps n = m then [n] else [] := by
  unfold topOf
  rw [List.filter_append]
  by_cases h : prio t.ps n = m <;> simp [h]

set_option maxRecDepth 20000 in
theorem turns_run (hG : Errs G) (n : Nat) {x y z : V} {t : Tab} (h : IsTab x y z t) : Run (sem (cfg G) (n + 11) 3 [.agg [x, y, z]]) Heap.empty fun v _ => v = .bool true := by
  rw [ferry_ferrylaw09_ReadyTurns_eq]
  by_cases hok : TabOk t
  · by_cases hq : t.q = []
    · have e0 : ((t.q.length : Int) == 0) = true := by simp [hq]
      simp only [ferry_ferrylaw09_ReadyTurns]
      (repeat' (first | (simp only [Run.bind, Run.ret, Run.lift, condT, condF, condN, guardTT, guardFT, guardTF, guardFF, guardS, guardNT, guardNF, Run.fail, Run.getN, Run.guardM, Run.qret, Run.newA, Run.newI, Run.newB, nil_ptr, Run.load1i, Run.load1p, Run.loadNi, Run.loadNp, Run.storeN, Run.out, Stp.normal, Stp.exit, Stp.ret, Heap.add_blk, Heap.add_next, Heap.add_floor, Heap.set_blk, Heap.set_next, Heap.set_floor, Heap.q_blk, Heap.q_next, Heap.q_floor, Heap.empty_next, Heap.empty_floor, padd_ptr, padd_iptr, arith_lss, arith_leq, arith_gtr, arith_geq, eq_int, eq_bool, eq_str, eq_nili, eq_ifnil, eq_nilif, pick_and, pick_or, pick_t, pick_f, un_not, extractV, cells_agg, cells_int, cells_bool, cells_str, cells_nils, cells_emp, cells_imm, cells_ref, cells_nili, cells_iface, cells_ptr, cells_nilp, cells_fn, Option.bind_some, Option.some.injEq, exists_eq_left', List.getD_cons_zero, List.getD_cons_succ, List.getElem?_cons_zero, List.getElem?_cons_succ, List.length_cons, List.length_nil, List.set_cons_zero, List.take_zero, List.drop_zero, List.nil_append, Nat.zero_add, Nat.add_zero, Nat.reduceAdd, Nat.reduceLT, Nat.reduceLeDiff, Nat.reduceEqDiff, if_true, if_false, ite_true, ite_false, reduceIte, Bool.true_and, Bool.false_and, Bool.and_true, Bool.and_false, Bool.true_or, Bool.false_or, Bool.or_true, Bool.or_false, true_and, and_true, Nat.le_refl, Nat.zero_le, List.drop_succ_cons, List.take_succ_cons, List.take_nil, List.drop_nil, List.append_nil, List.cons_append, Nat.lt_add_one, Nat.lt_irrefl, Nat.mul_one, Bool.not_true, Bool.not_false, Nat.zero_lt_succ, awake_spec hG, ref_good_spec _ h, decide_eq_true hok, h.q.len, List.length_map, e0]) | (with_reducible refine Run.gC ?_ ?_ <;> intro hb <;> try simp only [hb]) | (with_reducible refine Run.gG ?_ ?_ <;> intro hb <;> try simp only [hb]) | (with_reducible refine Run.gQ ?_ ?_ <;> intro hb <;> try simp only [hb])))
    · have e0 : ((t.q.length : Int) == 0) = false := by
        rw [beq_eq_false_iff_ne]
        have : t.q.length ≠ 0 := fun g => hq (List.eq_nil_of_length_eq_zero g)
        omega
      have atq : ∀ m ∈ t.q, ∃ p, at? t.ps m = some p ∧ prio t.ps m = p.prio ∧ p.state = 1 := fun m hm => by
        have := hok.q.1 m hm
        unfold isReady at this
        obtain ⟨p, hp, hs⟩ := Option.map_eq_some_iff.1 this
        exact ⟨p, hp, by simp [prio, hp], hs⟩
      simp only [ferry_ferrylaw09_ReadyTurns]
      (repeat' (first | (simp only [Run.bind, Run.ret, Run.lift, condT, condF, condN, guardTT, guardFT, guardTF, guardFF, guardS, guardNT, guardNF, Run.fail, Run.getN, Run.guardM, Run.qret, Run.newA, Run.newI, Run.newB, nil_ptr, Run.load1i, Run.load1p, Run.loadNi, Run.loadNp, Run.storeN, Run.out, Stp.normal, Stp.exit, Stp.ret, Heap.add_blk, Heap.add_next, Heap.add_floor, Heap.set_blk, Heap.set_next, Heap.set_floor, Heap.q_blk, Heap.q_next, Heap.q_floor, Heap.empty_next, Heap.empty_floor, padd_ptr, padd_iptr, arith_lss, arith_leq, arith_gtr, arith_geq, eq_int, eq_bool, eq_str, eq_nili, eq_ifnil, eq_nilif, pick_and, pick_or, pick_t, pick_f, un_not, extractV, cells_agg, cells_int, cells_bool, cells_str, cells_nils, cells_emp, cells_imm, cells_ref, cells_nili, cells_iface, cells_ptr, cells_nilp, cells_fn, Option.bind_some, Option.some.injEq, exists_eq_left', List.getD_cons_zero, List.getD_cons_succ, List.getElem?_cons_zero, List.getElem?_cons_succ, List.length_cons, List.length_nil, List.set_cons_zero, List.take_zero, List.drop_zero, List.nil_append, Nat.zero_add, Nat.add_zero, Nat.reduceAdd, Nat.reduceLT, Nat.reduceLeDiff, Nat.reduceEqDiff, if_true, if_false, ite_true, ite_false, reduceIte, Bool.true_and, Bool.false_and, Bool.and_true, Bool.and_false, Bool.true_or, Bool.false_or, Bool.or_true, Bool.or_false, true_and, and_true, Nat.le_refl, Nat.zero_le, List.drop_succ_cons, List.take_succ_cons, List.take_nil, List.drop_nil, List.append_nil, List.cons_append, Nat.lt_add_one, Nat.lt_irrefl, Nat.mul_one, Bool.not_true, Bool.not_false, Nat.zero_lt_succ, awake_spec hG, ref_good_spec _ h, decide_eq_true hok, h.q.len, List.length_map, e0]) | (with_reducible refine Run.gC ?_ ?_ <;> intro hb <;> try simp only [hb]) | (with_reducible refine Run.gG ?_ ?_ <;> intro hb <;> try simp only [hb]) | (with_reducible refine Run.gQ ?_ ?_ <;> intro hb <;> try simp only [hb])))
      refine Run.loop (N := t.q.length) (fun i s H => s = [.int .i64 (mostOf (prio t.ps) (-1) (t.q.take i)), .int .i64 (i : Nat)] ∧ H.floor = 0 ∧ H.next = 1 ∧ H.blk 0 = some ⟨3, [[x, y, z]]⟩)
        ⟨rfl, rfl, rfl, rfl⟩ ?_
      rintro i s H hi ⟨rfl, hf, hn, hb0⟩
      by_cases hlt : i < t.q.length
      · have h2 := h.q.idx (k := .i64) (i := i) (by simpa using hlt)
        simp only [List.getElem_map] at h2
        obtain ⟨p, hp, ep, _⟩ := atq _ (List.getElem_mem hlt)
        obtain ⟨i1, w1⟩ := h.at hp
        have hm := mostOf_snoc (prio t.ps) (-1) (t.q.take i) t.q[i]
        rw [← take_snoc hlt, ep] at hm
        simp only [ferry_ferrylaw09_ReadyTurns_l1]
        (repeat' (first | (simp only [Run.bind, Run.ret, Run.lift, condT, condF, condN, guardTT, guardFT, guardTF, guardFF, guardS, guardNT, guardNF, Run.fail, Run.getN, Run.guardM, Run.qret, Run.newA, Run.newI, Run.newB, nil_ptr, Run.load1i, Run.load1p, Run.loadNi, Run.loadNp, Run.storeN, Run.out, Stp.normal, Stp.exit, Stp.ret, Heap.add_blk, Heap.add_next, Heap.add_floor, Heap.set_blk, Heap.set_next, Heap.set_floor, Heap.q_blk, Heap.q_next, Heap.q_floor, Heap.empty_next, Heap.empty_floor, padd_ptr, padd_iptr, arith_lss, arith_leq, arith_gtr, arith_geq, eq_int, eq_bool, eq_str, eq_nili, eq_ifnil, eq_nilif, pick_and, pick_or, pick_t, pick_f, un_not, extractV, cells_agg, cells_int, cells_bool, cells_str, cells_nils, cells_emp, cells_imm, cells_ref, cells_nili, cells_iface, cells_ptr, cells_nilp, cells_fn, Option.bind_some, Option.some.injEq, exists_eq_left', List.getD_cons_zero, List.getD_cons_succ, List.getElem?_cons_zero, List.getElem?_cons_succ, List.length_cons, List.length_nil, List.set_cons_zero, List.take_zero, List.drop_zero, List.nil_append, Nat.zero_add, Nat.add_zero, Nat.reduceAdd, Nat.reduceLT, Nat.reduceLeDiff, Nat.reduceEqDiff, if_true, if_false, ite_true, ite_false, reduceIte, Bool.true_and, Bool.false_and, Bool.and_true, Bool.and_false, Bool.true_or, Bool.false_or, Bool.or_true, Bool.or_false, true_and, and_true, Nat.le_refl, Nat.zero_le, List.drop_succ_cons, List.take_succ_cons, List.take_nil, List.drop_nil, List.append_nil, List.cons_append, Nat.lt_add_one, Nat.lt_irrefl, Nat.mul_one, Bool.not_true, Bool.not_false, Nat.zero_lt_succ, ltT hlt, addN hlt h.big.2.1, h2, ir_at, hb0, i1, pr_prio w1]) | (with_reducible refine Run.gC ?_ ?_ <;> intro hb <;> try simp only [hb]) | (with_reducible refine Run.gG ?_ ?_ <;> intro hb <;> try simp only [hb]) | (with_reducible refine Run.gQ ?_ ?_ <;> intro hb <;> try simp only [hb])))
        · have hb' := of_decide_eq_true hb
          exact ⟨hlt, by rw [hm, if_pos hb'], hf, hn⟩
        · have hb' := of_decide_eq_false hb
          exact ⟨hlt, by rw [hm, if_neg hb'], hf, hn⟩
      · simp only [ferry_ferrylaw09_ReadyTurns_l1]
        (repeat' (first | (simp only [Run.bind, Run.ret, Run.lift, condT, condF, condN, guardTT, guardFT, guardTF, guardFF, guardS, guardNT, guardNF, Run.fail, Run.getN, Run.guardM, Run.qret, Run.newA, Run.newI, Run.newB, nil_ptr, Run.load1i, Run.load1p, Run.loadNi, Run.loadNp, Run.storeN, Run.out, Stp.normal, Stp.exit, Stp.ret, Heap.add_blk, Heap.add_next, Heap.add_floor, Heap.set_blk, Heap.set_next, Heap.set_floor, Heap.q_blk, Heap.q_next, Heap.q_floor, Heap.empty_next, Heap.empty_floor, padd_ptr, padd_iptr, arith_lss, arith_leq, arith_gtr, arith_geq, eq_int, eq_bool, eq_str, eq_nili, eq_ifnil, eq_nilif, pick_and, pick_or, pick_t, pick_f, un_not, extractV, cells_agg, cells_int, cells_bool, cells_str, cells_nils, cells_emp, cells_imm, cells_ref, cells_nili, cells_iface, cells_ptr, cells_nilp, cells_fn, Option.bind_some, Option.some.injEq, exists_eq_left', List.getD_cons_zero, List.getD_cons_succ, List.getElem?_cons_zero, List.getElem?_cons_succ, List.length_cons, List.length_nil, List.set_cons_zero, List.take_zero, List.drop_zero, List.nil_append, Nat.zero_add, Nat.add_zero, Nat.reduceAdd, Nat.reduceLT, Nat.reduceLeDiff, Nat.reduceEqDiff, if_true, if_false, ite_true, ite_false, reduceIte, Bool.true_and, Bool.false_and, Bool.and_true, Bool.and_false, Bool.true_or, Bool.false_or, Bool.or_true, Bool.or_false, true_and, and_true, Nat.le_refl, Nat.zero_le, List.drop_succ_cons, List.take_succ_cons, List.take_nil, List.drop_nil, List.append_nil, List.cons_append, Nat.lt_add_one, Nat.lt_irrefl, Nat.mul_one, Bool.not_true, Bool.not_false, Nat.zero_lt_succ, ltF hlt, hb0, h.q.len, List.length_map]) | (with_reducible refine Run.gC ?_ ?_ <;> intro hb <;> try simp only [hb]) | (with_reducible refine Run.gG ?_ ?_ <;> intro hb <;> try simp only [hb]) | (with_reducible refine Run.gQ ?_ ?_ <;> intro hb <;> try simp only [hb])))
        rw [take_all (by omega)]
        obtain ⟨m1, m2, m3⟩ := mostOf_ge (prio t.ps) t.q (-1)
        generalize mostOf (prio t.ps) (-1) t.q = m at m1 m2 m3 ⊢
        refine Run.loop (N := t.q.length) (fun i s H => s = [.int .i64 ((topOf t m (t.q.take i)).length : Nat), .int .i64 (i : Nat)] ∧ H.floor = 0 ∧ H.next = 1 ∧ H.blk 0 = some ⟨3, [[x, y, z]]⟩)
          ⟨rfl, hf, hn, hb0⟩ ?_
        rintro i s H hi ⟨rfl, hf, hn, hb0⟩
        by_cases hlt : i < t.q.length
        · have h2 := h.q.idx (k := .i64) (i := i) (by simpa using hlt)
          simp only [List.getElem_map] at h2
          obtain ⟨p, hp, ep, _⟩ := atq _ (List.getElem_mem hlt)
          obtain ⟨i1, w1⟩ := h.at hp
          have ht := topOf_snoc t m t.q[i] (t.q.take i)
          rw [← take_snoc hlt, ep] at ht
          have hle : (topOf t m (t.q.take i)).length < t.q.length := by
            have : (topOf t m (t.q.take i)).length ≤ (t.q.take i).length := List.length_filter_le _ _
            rw [List.length_take] at this
            omega
          simp only [ferry_ferrylaw09_ReadyTurns_l2]
          (repeat' (first | (simp only [Run.bind, Run.ret, Run.lift, condT, condF, condN, guardTT, guardFT, guardTF, guardFF, guardS, guardNT, guardNF, Run.fail, Run.getN, Run.guardM, Run.qret, Run.newA, Run.newI, Run.newB, nil_ptr, Run.load1i, Run.load1p, Run.loadNi, Run.loadNp, Run.storeN, Run.out, Stp.normal, Stp.exit, Stp.ret, Heap.add_blk, Heap.add_next, Heap.add_floor, Heap.set_blk, Heap.set_next, Heap.set_floor, Heap.q_blk, Heap.q_next, Heap.q_floor, Heap.empty_next, Heap.empty_floor, padd_ptr, padd_iptr, arith_lss, arith_leq, arith_gtr, arith_geq, eq_int, eq_bool, eq_str, eq_nili, eq_ifnil, eq_nilif, pick_and, pick_or, pick_t, pick_f, un_not, extractV, cells_agg, cells_int, cells_bool, cells_str, cells_nils, cells_emp, cells_imm, cells_ref, cells_nili, cells_iface, cells_ptr, cells_nilp, cells_fn, Option.bind_some, Option.some.injEq, exists_eq_left', List.getD_cons_zero, List.getD_cons_succ, List.getElem?_cons_zero, List.getElem?_cons_succ, List.length_cons, List.length_nil, List.set_cons_zero, List.take_zero, List.drop_zero, List.nil_append, Nat.zero_add, Nat.add_zero, Nat.reduceAdd, Nat.reduceLT, Nat.reduceLeDiff, Nat.reduceEqDiff, if_true, if_false, ite_true, ite_false, reduceIte, Bool.true_and, Bool.false_and, Bool.and_true, Bool.and_false, Bool.true_or, Bool.false_or, Bool.or_true, Bool.or_false, true_and, and_true, Nat.le_refl, Nat.zero_le, List.drop_succ_cons, List.take_succ_cons, List.take_nil, List.drop_nil, List.append_nil, List.cons_append, Nat.lt_add_one, Nat.lt_irrefl, Nat.mul_one, Bool.not_true, Bool.not_false, Nat.zero_lt_succ, ltT hlt, addN hlt h.big.2.1, h2, ir_at, hb0, i1, pr_prio w1, addN hle h.big.2.1]) | (with_reducible refine Run.gC ?_ ?_ <;> intro hb <;> try simp only [hb]) | (with_reducible refine Run.gG ?_ ?_ <;> intro hb <;> try simp only [hb]) | (with_reducible refine Run.gQ ?_ ?_ <;> intro hb <;> try simp only [hb])))
          · have hb' : p.prio = m := by simpa using hb
            exact ⟨hlt, by rw [ht, if_pos hb', List.length_append]; rfl, hf, hn⟩
          · have hb' : p.prio ≠ m := by simpa using hb
            exact ⟨hlt, by rw [ht, if_neg hb', List.append_nil], hf, hn⟩
        · simp only [ferry_ferrylaw09_ReadyTurns_l2]
          (repeat' (first | (simp only [Run.bind, Run.ret, Run.lift, condT, condF, condN, guardTT, guardFT, guardTF, guardFF, guardS, guardNT, guardNF, Run.fail, Run.getN, Run.guardM, Run.qret, Run.newA, Run.newI, Run.newB, nil_ptr, Run.load1i, Run.load1p, Run.loadNi, Run.loadNp, Run.storeN, Run.out, Stp.normal, Stp.exit, Stp.ret, Heap.add_blk, Heap.add_next, Heap.add_floor, Heap.set_blk, Heap.set_next, Heap.set_floor, Heap.q_blk, Heap.q_next, Heap.q_floor, Heap.empty_next, Heap.empty_floor, padd_ptr, padd_iptr, arith_lss, arith_leq, arith_gtr, arith_geq, eq_int, eq_bool, eq_str, eq_nili, eq_ifnil, eq_nilif, pick_and, pick_or, pick_t, pick_f, un_not, extractV, cells_agg, cells_int, cells_bool, cells_str, cells_nils, cells_emp, cells_imm, cells_ref, cells_nili, cells_iface, cells_ptr, cells_nilp, cells_fn, Option.bind_some, Option.some.injEq, exists_eq_left', List.getD_cons_zero, List.getD_cons_succ, List.getElem?_cons_zero, List.getElem?_cons_succ, List.length_cons, List.length_nil, List.set_cons_zero, List.take_zero, List.drop_zero, List.nil_append, Nat.zero_add, Nat.add_zero, Nat.reduceAdd, Nat.reduceLT, Nat.reduceLeDiff, Nat.reduceEqDiff, if_true, if_false, ite_true, ite_false, reduceIte, Bool.true_and, Bool.false_and, Bool.and_true, Bool.and_false, Bool.true_or, Bool.false_or, Bool.or_true, Bool.or_false, true_and, and_true, Nat.le_refl, Nat.zero_le, List.drop_succ_cons, List.take_succ_cons, List.take_nil, List.drop_nil, List.append_nil, List.cons_append, Nat.lt_add_one, Nat.lt_irrefl, Nat.mul_one, Bool.not_true, Bool.not_false, Nat.zero_lt_succ, ltF hlt, hb0, to_spec _ h, hf, hn]) | (with_reducible refine Run.gC ?_ ?_ <;> intro hb <;> try simp only [hb]) | (with_reducible refine Run.gG ?_ ?_ <;> intro hb <;> try simp only [hb]) | (with_reducible refine Run.gQ ?_ ?_ <;> intro hb <;> try simp only [hb])))
          rw [take_all (by omega)]
          have hT : Turn t m (topOf t m t.q) 0 t := ⟨rfl, hok, by simp [topOf], m2⟩
          have hTn : (topOf t m t.q).Nodup := List.Nodup.sublist List.filter_sublist hok.q.2.1
          have hTl : (topOf t m t.q).length ≤ 8 := by
            have : (topOf t m t.q).length ≤ t.q.length := List.length_filter_le _ _
            have := ((ROk_iff t).2 hok).few
            omega
          generalize topOf t m t.q = T at hT hTn hTl ⊢
          refine Run.loop (N := 2) (fun i s H => s = [.bool false, .int .i64 (i : Nat)] ∧ H.floor = 0 ∧ 2 ≤ H.next ∧ H.blk 0 = some ⟨3, [[x, y, z]]⟩ ∧ ∃ a b c u, H.blk 1 = some ⟨3, [[a, b, c]]⟩ ∧ IsTab a b c u ∧ Turn t m T 0 u)
            ⟨rfl, hf, by simp [Heap.set_next, Heap.add_next, hn], by simp [Heap.set_blk, Heap.add_blk, hn, hb0], x, y, z, t, by simp [Heap.set_blk, Heap.add_blk, hn], h, hT⟩ ?_
          rintro r s H hr ⟨rfl, hf, hn, hb0, a, b, c, u, hb1, hu, hTu⟩
          by_cases hr2 : r < 2
          · simp only [ferry_ferrylaw09_ReadyTurns_l3, marks_none]
            (repeat' (first | (simp only [Run.bind, Run.ret, Run.lift, condT, condF, condN, guardTT, guardFT, guardTF, guardFF, guardS, guardNT, guardNF, Run.fail, Run.getN, Run.guardM, Run.qret, Run.newA, Run.newI, Run.newB, nil_ptr, Run.load1i, Run.load1p, Run.loadNi, Run.loadNp, Run.storeN, Run.out, Stp.normal, Stp.exit, Stp.ret, Heap.add_blk, Heap.add_next, Heap.add_floor, Heap.set_blk, Heap.set_next, Heap.set_floor, Heap.q_blk, Heap.q_next, Heap.q_floor, Heap.empty_next, Heap.empty_floor, padd_ptr, padd_iptr, arith_lss, arith_leq, arith_gtr, arith_geq, eq_int, eq_bool, eq_str, eq_nili, eq_ifnil, eq_nilif, pick_and, pick_or, pick_t, pick_f, un_not, extractV, cells_agg, cells_int, cells_bool, cells_str, cells_nils, cells_emp, cells_imm, cells_ref, cells_nili, cells_iface, cells_ptr, cells_nilp, cells_fn, Option.bind_some, Option.some.injEq, exists_eq_left', List.getD_cons_zero, List.getD_cons_succ, List.getElem?_cons_zero, List.getElem?_cons_succ, List.length_cons, List.length_nil, List.set_cons_zero, List.take_zero, List.drop_zero, List.nil_append, Nat.zero_add, Nat.add_zero, Nat.reduceAdd, Nat.reduceLT, Nat.reduceLeDiff, Nat.reduceEqDiff, if_true, if_false, ite_true, ite_false, reduceIte, Bool.true_and, Bool.false_and, Bool.and_true, Bool.and_false, Bool.true_or, Bool.false_or, Bool.or_true, Bool.or_false, true_and, and_true, Nat.le_refl, Nat.zero_le, List.drop_succ_cons, List.take_succ_cons, List.take_nil, List.drop_nil, List.append_nil, List.cons_append, Nat.lt_add_one, Nat.lt_irrefl, Nat.mul_one, Bool.not_true, Bool.not_false, Nat.zero_lt_succ, ltT hr2]) | (with_reducible refine Run.gC ?_ ?_ <;> intro hb <;> try simp only [hb]) | (with_reducible refine Run.gG ?_ ?_ <;> intro hb <;> try simp only [hb]) | (with_reducible refine Run.gQ ?_ ?_ <;> intro hb <;> try simp only [hb])))
            have n1 : ¬ 0 = H.next := by omega
            have n2 : ¬ 1 = H.next := by omega
            refine Run.loop (N := T.length) (fun k s H' => s = [.bool false, .int .i64 (k : Nat)] ∧ H'.floor = 0 ∧ H.next + 1 ≤ H'.next ∧ H'.blk 0 = some ⟨3, [[x, y, z]]⟩ ∧ H'.blk H.next = some ⟨8, [marks fun j => decide (((j : Nat) : Int) ∈ T.take k)]⟩ ∧
                ∃ a b c u, H'.blk 1 = some ⟨3, [[a, b, c]]⟩ ∧ IsTab a b c u ∧ Turn t m T k u)
              ⟨rfl, hf, Nat.le_refl _, by simp [Heap.add_blk, n1, hb0], by simp [Heap.add_blk, marks_len], a, b, c, u, by simp [Heap.add_blk, n2, hb1], hu, hTu⟩ ?_
            rintro k s H' hk ⟨rfl, hf', hn', hc0, hcm, a, b, c, u, hc1, hu, hTu⟩
            by_cases hkT : k < T.length
            · obtain ⟨hmem, hpr⟩ := hTu.mem hkT
              have hne : u.q ≠ [] := List.ne_nil_of_mem hmem
              have hpick : pickV' u = .tuple [.int .i64 T[k], .nili] := by
                rw [pickV', if_pos hTu.ok]
                cases hq' : u.q with
                | nil => exact absurd hq' hne
                | cons b' q' =>
                  have := hTu.pick hkT (b := b') (by rw [hq']; rfl)
                  rw [hq'] at this
                  simp only [this]
              have hrdy := hTu.ok.q.1 _ hmem
              rw [hTu.ps] at hrdy
              obtain ⟨p, hp, hs⟩ := Option.map_eq_some_iff.1 (show (at? t.ps T[k]).map Pr.state = some 1 from hrdy)
              obtain ⟨i1, w1⟩ := h.at hp
              have hpp : p.prio = m := by rw [← hpr]; simp [prio, hp]
              have hlt := at?_lt hp
              have hfew := hok.few
              have e1 : decide (T[k] < 0) = false := by simp; omega
              have e2 : decide ((t.ps.length : Int) ≤ T[k]) = false := by simp; omega
              have e3 : decide (7 < T[k]) = false := by simp; omega
              have ha : aidxV 8 1 (.ptr H.next 0 0) (.int .i64 T[k]) = some (.ptr H.next 0 T[k].toNat) := by
                have := aidx_in (l := H.next) (i := 0) (o := 0) hlt.1 (n := 8) (by omega)
                rwa [Nat.mul_one, Nat.zero_add] at this
              have hg := marks_get (fun j => decide (((j : Nat) : Int) ∈ T.take k)) (show T[k].toNat < 8 by omega)
              have hle : T[k].toNat + 1 ≤ (marks fun j => decide (((j : Nat) : Int) ∈ T.take k)).length := by rw [marks_len]; omega
              have hnm : T[k] ∉ T.take k := fun hm => by
                have h9 : (T.take (k + 1)).Nodup := List.Nodup.sublist (List.take_sublist _ _) hTn
                rw [take_snoc hkT, List.nodup_append] at h9
                exact h9.2.2 _ hm _ (by simp) rfl
              simp only [Int.toNat_of_nonneg hlt.1, decide_eq_false hnm] at hg
              have hmk := marks_next (l := T.take k) hlt.1 (by omega : T[k] < 8)
              rw [← take_snoc hkT] at hmk
              have e5 : (p.prio == m) = true := by simp [hpp]
              have e6 : (p.state == 1) = true := by simp [hs]
              have n3 : ¬ 1 = H'.next := by omega
              have n4 : ¬ H.next = H'.next := by omega
              have n5 : ¬ 0 = H'.next := by omega
              have n6 : ¬ H'.next = H.next := by omega
              have n7 : ¬ H'.next = 1 := by omega
              have n8 : ¬ H.next = 1 := by omega
              have n9 : ¬ H.next = 0 := by omega
              have hr' : isReady u.ps T[k] := hTu.ok.q.1 _ hmem
              have hbig : T.length ≤ big := by unfold big; omega
              obtain ⟨r, hyr, hya⟩ := yield_spec hG (n + 2) hu T[k]
              rcases hya with ⟨_, _, a', b', c', rfl, hu'⟩ | ⟨h9, _⟩ | ⟨_, h9, _⟩
              · simp only [ferry_ferrylaw09_ReadyTurns_l4]
                (repeat' (first | (simp only [Run.bind, Run.ret, Run.lift, condT, condF, condN, guardTT, guardFT, guardTF, guardFF, guardS, guardNT, guardNF, Run.fail, Run.getN, Run.guardM, Run.qret, Run.newA, Run.newI, Run.newB, nil_ptr, Run.load1i, Run.load1p, Run.loadNi, Run.loadNp, Run.storeN, Run.out, Stp.normal, Stp.exit, Stp.ret, Heap.add_blk, Heap.add_next, Heap.add_floor, Heap.set_blk, Heap.set_next, Heap.set_floor, Heap.q_blk, Heap.q_next, Heap.q_floor, Heap.empty_next, Heap.empty_floor, padd_ptr, padd_iptr, arith_lss, arith_leq, arith_gtr, arith_geq, eq_int, eq_bool, eq_str, eq_nili, eq_ifnil, eq_nilif, pick_and, pick_or, pick_t, pick_f, un_not, extractV, cells_agg, cells_int, cells_bool, cells_str, cells_nils, cells_emp, cells_imm, cells_ref, cells_nili, cells_iface, cells_ptr, cells_nilp, cells_fn, Option.bind_some, Option.some.injEq, exists_eq_left', List.getD_cons_zero, List.getD_cons_succ, List.getElem?_cons_zero, List.getElem?_cons_succ, List.length_cons, List.length_nil, List.set_cons_zero, List.take_zero, List.drop_zero, List.nil_append, Nat.zero_add, Nat.add_zero, Nat.reduceAdd, Nat.reduceLT, Nat.reduceLeDiff, Nat.reduceEqDiff, if_true, if_false, ite_true, ite_false, reduceIte, Bool.true_and, Bool.false_and, Bool.and_true, Bool.and_false, Bool.true_or, Bool.false_or, Bool.or_true, Bool.or_false, true_and, and_true, Nat.le_refl, Nat.zero_le, List.drop_succ_cons, List.take_succ_cons, List.take_nil, List.drop_nil, List.append_nil, List.cons_append, Nat.lt_add_one, Nat.lt_irrefl, Nat.mul_one, Bool.not_true, Bool.not_false, Nat.zero_lt_succ, ltT hkT, addN hkT hbig, hc1, hc0, hcm, pick_spec hG _ hu, hpick, e1, e2, e3, ha, hg, hle, i1, pr_prio w1, pr_state w1, e5, e6, h.p.len, List.length_map, hf', n1, n2, n3, n4, n5, n6, n7, n8, n9, hyr]) | (with_reducible refine Run.gC ?_ ?_ <;> intro hb <;> try simp only [hb]) | (with_reducible refine Run.gG ?_ ?_ <;> intro hb <;> try simp only [hb]) | (with_reducible refine Run.gQ ?_ ?_ <;> intro hb <;> try simp only [hb])))
                exact ⟨hkT, by omega, by rw [hmk], a', b', c', u.yield T[k], rfl, hu', hTu.next hTn hkT⟩
              · exact absurd hTu.ok h9
              · refine absurd ?_ h9
                obtain ⟨p', hp', hs'⟩ := Option.map_eq_some_iff.1 (show (at? u.ps T[k]).map Pr.state = some 1 from hr')
                exact ⟨p', hp', by simp [hs']⟩
            · simp only [ferry_ferrylaw09_ReadyTurns_l4]
              (repeat' (first | (simp only [Run.bind, Run.ret, Run.lift, condT, condF, condN, guardTT, guardFT, guardTF, guardFF, guardS, guardNT, guardNF, Run.fail, Run.getN, Run.guardM, Run.qret, Run.newA, Run.newI, Run.newB, nil_ptr, Run.load1i, Run.load1p, Run.loadNi, Run.loadNp, Run.storeN, Run.out, Stp.normal, Stp.exit, Stp.ret, Heap.add_blk, Heap.add_next, Heap.add_floor, Heap.set_blk, Heap.set_next, Heap.set_floor, Heap.q_blk, Heap.q_next, Heap.q_floor, Heap.empty_next, Heap.empty_floor, padd_ptr, padd_iptr, arith_lss, arith_leq, arith_gtr, arith_geq, eq_int, eq_bool, eq_str, eq_nili, eq_ifnil, eq_nilif, pick_and, pick_or, pick_t, pick_f, un_not, extractV, cells_agg, cells_int, cells_bool, cells_str, cells_nils, cells_emp, cells_imm, cells_ref, cells_nili, cells_iface, cells_ptr, cells_nilp, cells_fn, Option.bind_some, Option.some.injEq, exists_eq_left', List.getD_cons_zero, List.getD_cons_succ, List.getElem?_cons_zero, List.getElem?_cons_succ, List.length_cons, List.length_nil, List.set_cons_zero, List.take_zero, List.drop_zero, List.nil_append, Nat.zero_add, Nat.add_zero, Nat.reduceAdd, Nat.reduceLT, Nat.reduceLeDiff, Nat.reduceEqDiff, if_true, if_false, ite_true, ite_false, reduceIte, Bool.true_and, Bool.false_and, Bool.and_true, Bool.and_false, Bool.true_or, Bool.false_or, Bool.or_true, Bool.or_false, true_and, and_true, Nat.le_refl, Nat.zero_le, List.drop_succ_cons, List.take_succ_cons, List.take_nil, List.drop_nil, List.append_nil, List.cons_append, Nat.lt_add_one, Nat.lt_irrefl, Nat.mul_one, Bool.not_true, Bool.not_false, Nat.zero_lt_succ, ltF hkT, addN hr2 (show 2 ≤ big by decide)]) | (with_reducible refine Run.gC ?_ ?_ <;> intro hb <;> try simp only [hb]) | (with_reducible refine Run.gG ?_ ?_ <;> intro hb <;> try simp only [hb]) | (with_reducible refine Run.gQ ?_ ?_ <;> intro hb <;> try simp only [hb])))
              obtain rfl : k = T.length := by omega
              exact ⟨hr2, hf', by omega, hc0, a, b, c, u, hc1, hu, hTu.wrap⟩
          · have hr3 : decide ((r : Int) < 2) = false := by simp; omega
            simp only [ferry_ferrylaw09_ReadyTurns_l3]
            (repeat' (first | (simp only [Run.bind, Run.ret, Run.lift, condT, condF, condN, guardTT, guardFT, guardTF, guardFF, guardS, guardNT, guardNF, Run.fail, Run.getN, Run.guardM, Run.qret, Run.newA, Run.newI, Run.newB, nil_ptr, Run.load1i, Run.load1p, Run.loadNi, Run.loadNp, Run.storeN, Run.out, Stp.normal, Stp.exit, Stp.ret, Heap.add_blk, Heap.add_next, Heap.add_floor, Heap.set_blk, Heap.set_next, Heap.set_floor, Heap.q_blk, Heap.q_next, Heap.q_floor, Heap.empty_next, Heap.empty_floor, padd_ptr, padd_iptr, arith_lss, arith_leq, arith_gtr, arith_geq, eq_int, eq_bool, eq_str, eq_nili, eq_ifnil, eq_nilif, pick_and, pick_or, pick_t, pick_f, un_not, extractV, cells_agg, cells_int, cells_bool, cells_str, cells_nils, cells_emp, cells_imm, cells_ref, cells_nili, cells_iface, cells_ptr, cells_nilp, cells_fn, Option.bind_some, Option.some.injEq, exists_eq_left', List.getD_cons_zero, List.getD_cons_succ, List.getElem?_cons_zero, List.getElem?_cons_succ, List.length_cons, List.length_nil, List.set_cons_zero, List.take_zero, List.drop_zero, List.nil_append, Nat.zero_add, Nat.add_zero, Nat.reduceAdd, Nat.reduceLT, Nat.reduceLeDiff, Nat.reduceEqDiff, if_true, if_false, ite_true, ite_false, reduceIte, Bool.true_and, Bool.false_and, Bool.and_true, Bool.and_false, Bool.true_or, Bool.false_or, Bool.or_true, Bool.or_false, true_and, and_true, Nat.le_refl, Nat.zero_le, List.drop_succ_cons, List.take_succ_cons, List.take_nil, List.drop_nil, List.append_nil, List.cons_append, Nat.lt_add_one, Nat.lt_irrefl, Nat.mul_one, Bool.not_true, Bool.not_false, Nat.zero_lt_succ, hr3]) | (with_reducible refine Run.gC ?_ ?_ <;> intro hb <;> try simp only [hb]) | (with_reducible refine Run.gG ?_ ?_ <;> intro hb <;> try simp only [hb]) | (with_reducible refine Run.gQ ?_ ?_ <;> intro hb <;> try simp only [hb])))
  · simp only [ferry_ferrylaw09_ReadyTurns]
    (repeat' (first | (simp only [Run.bind, Run.ret, Run.lift, condT, condF, condN, guardTT, guardFT, guardTF, guardFF, guardS, guardNT, guardNF, Run.fail, Run.getN, Run.guardM, Run.qret, Run.newA, Run.newI, Run.newB, nil_ptr, Run.load1i, Run.load1p, Run.loadNi, Run.loadNp, Run.storeN, Run.out, Stp.normal, Stp.exit, Stp.ret, Heap.add_blk, Heap.add_next, Heap.add_floor, Heap.set_blk, Heap.set_next, Heap.set_floor, Heap.q_blk, Heap.q_next, Heap.q_floor, Heap.empty_next, Heap.empty_floor, padd_ptr, padd_iptr, arith_lss, arith_leq, arith_gtr, arith_geq, eq_int, eq_bool, eq_str, eq_nili, eq_ifnil, eq_nilif, pick_and, pick_or, pick_t, pick_f, un_not, extractV, cells_agg, cells_int, cells_bool, cells_str, cells_nils, cells_emp, cells_imm, cells_ref, cells_nili, cells_iface, cells_ptr, cells_nilp, cells_fn, Option.bind_some, Option.some.injEq, exists_eq_left', List.getD_cons_zero, List.getD_cons_succ, List.getElem?_cons_zero, List.getElem?_cons_succ, List.length_cons, List.length_nil, List.set_cons_zero, List.take_zero, List.drop_zero, List.nil_append, Nat.zero_add, Nat.add_zero, Nat.reduceAdd, Nat.reduceLT, Nat.reduceLeDiff, Nat.reduceEqDiff, if_true, if_false, ite_true, ite_false, reduceIte, Bool.true_and, Bool.false_and, Bool.and_true, Bool.and_false, Bool.true_or, Bool.false_or, Bool.or_true, Bool.or_false, true_and, and_true, Nat.le_refl, Nat.zero_le, List.drop_succ_cons, List.take_succ_cons, List.take_nil, List.drop_nil, List.append_nil, List.cons_append, Nat.lt_add_one, Nat.lt_irrefl, Nat.mul_one, Bool.not_true, Bool.not_false, Nat.zero_lt_succ, awake_spec hG, ref_good_spec _ h, decide_eq_false hok]) | (with_reducible refine Run.gC ?_ ?_ <;> intro hb <;> try simp only [hb]) | (with_reducible refine Run.gG ?_ ?_ <;> intro hb <;> try simp only [hb]) | (with_reducible refine Run.gQ ?_ ?_ <;> intro hb <;> try simp only [hb])))
end Go.Fv.Tr
