/-
  The law TimerRelative, run to its end. By an AI agent; no person has read it.
-/
import Derived.Test.YtjjiphigolegbaaDoorFvSpS
set_option linter.unusedVariables false
set_option linter.unusedSimpArgs false
set_option linter.unusedSectionVars false
/-! The law TimerRelative, run to its end. -/
namespace Go.Fv.Tr
open Go Go.Fv Go.Fv.Pl Go.Proofs
set_option linter.unusedSimpArgs false
set_option linter.unusedVariables false
variable {G : Nat → Option (List V)}

theorem relative_l1 (n : Nat) {x y : V} {a b : List Int} (hx : Sls x 1 (a.map intRow)) (hy : Sls y 1 (b.map intRow)) (ha : ∀ p ∈ a, 0 ≤ p ∧ p < 8) (hb : ∀ p ∈ b, 0 ≤ p ∧ p < 8) (h8 : a.length ≤ 8) (hp : a.Perm b) {H : Heap} (hf : H.floor = 0) (hb0 : H.blk 0 = some ⟨8, [nums fun _ => 0]⟩)
    {Q : R → Heap → Prop} (q : ∀ H', H'.blk 0 = some ⟨8, [nums fun _ => 0]⟩ → H'.floor = 0 → Q (Ex.exit 0, [.int .i64 (a.length : Nat)]) H') :
    Run (loopV (ferry_ferrylaw08_TimerRelative_l1 G (sem (cfg G) n) x (.ptr 0 0 0) y) [.int .i64 0]) H Q := by
  have hlen := hp.length_eq
  refine Run.loop (N := a.length) (fun i s H => s = [.int .i64 (i : Nat)] ∧ H.floor = 0 ∧ H.blk 0 = some ⟨8, [nums (cntD a b i)]⟩) ⟨rfl, hf, by rw [hb0, show cntD a b 0 = fun _ => 0 from funext fun j => by simp [cntD]]⟩ ?_
  rintro i s H hi ⟨rfl, hf, hb0⟩
  simp only [ferry_ferrylaw08_TimerRelative_l1]
  by_cases hlt : i < a.length
  · have hlb : i < b.length := by omega
    have h2 := hx.idx (k := .i64) (i := i) (by simpa using hlt)
    have h3 := hy.idx (k := .i64) (i := i) (by simpa using hlb)
    simp only [List.getElem_map] at h2 h3
    have pa := ha _ (List.getElem_mem hlt)
    have pb := hb _ (List.getElem_mem hlb)
    have na : a[i].toNat < 8 := by omega
    have nb : b[i].toNat < 8 := by omega
    have ia : aidxV 8 1 (.ptr 0 0 0) (.int .i64 a[i]) = some (.ptr 0 0 a[i].toNat) := by
      have := aidx_in (l := 0) (i := 0) (o := 0) pa.1 (n := 8) (by omega)
      rwa [Nat.mul_one, Nat.zero_add] at this
    have ib : aidxV 8 1 (.ptr 0 0 0) (.int .i64 b[i]) = some (.ptr 0 0 b[i].toNat) := by
      have := aidx_in (l := 0) (i := 0) (o := 0) pb.1 (n := 8) (by omega)
      rwa [Nat.mul_one, Nat.zero_add] at this
    have b1 := cntD_le h8 (show b.length ≤ 8 by omega) i a[i].toNat
    have b2 := cntD_le h8 (show b.length ≤ 8 by omega) i b[i].toNat
    have g1 := nums_get (cntD a b i) na
    have ad : arithV .add (.int .i64 (cntD a b i a[i].toNat)) (.int .i64 1) = some (.int .i64 (cntD a b i a[i].toNat + 1)) := arith_add (by omega) (by omega)
    have p1 := nums_put (cntD a b i) (cntD a b i a[i].toNat + 1) na
    have g2 := nums_get (fun j => if j = a[i].toNat then cntD a b i a[i].toNat + 1 else cntD a b i j) nb
    have sb : arithV .sub (.int .i64 (if b[i].toNat = a[i].toNat then cntD a b i a[i].toNat + 1 else cntD a b i b[i].toNat)) (.int .i64 1) = some (.int .i64 ((if b[i].toNat = a[i].toNat then cntD a b i a[i].toNat + 1 else cntD a b i b[i].toNat) - 1)) := by
      refine arith_sub ?_ ?_ <;> split <;> omega
    have p2 := nums_put (fun j => if j = a[i].toNat then cntD a b i a[i].toNat + 1 else cntD a b i j) ((if b[i].toNat = a[i].toNat then cntD a b i a[i].toNat + 1 else cntD a b i b[i].toNat) - 1) nb
    have p3 := cntD_next hlt hlb pa.1 pb.1
    have l1 : a[i].toNat + 1 ≤ (nums (cntD a b i)).length := by rw [nums_len]; omega
    have l2 : b[i].toNat + 1 ≤ (nums fun j => if j = a[i].toNat then cntD a b i a[i].toNat + 1 else cntD a b i j).length := by rw [nums_len]; omega
    (repeat' (first | (simp only [Run.bind, Run.ret, Run.lift, condT, condF, condN, guardTT, guardFT, guardTF, guardFF, guardS, guardNT, guardNF, Run.fail, Run.getN, Run.guardM, Run.qret, Run.newA, Run.newI, Run.newB, nil_ptr, Run.load1i, Run.load1p, Run.loadNi, Run.loadNp, Run.storeN, Run.out, Stp.normal, Stp.exit, Stp.ret, Heap.add_blk, Heap.add_next, Heap.add_floor, Heap.set_blk, Heap.set_next, Heap.set_floor, Heap.q_blk, Heap.q_next, Heap.q_floor, Heap.empty_next, Heap.empty_floor, padd_ptr, padd_iptr, arith_lss, arith_leq, arith_gtr, arith_geq, eq_int, eq_bool, eq_str, eq_nili, eq_ifnil, eq_nilif, pick_and, pick_or, pick_t, pick_f, un_not, extractV, cells_agg, cells_int, cells_bool, cells_str, cells_nils, cells_emp, cells_imm, cells_ref, cells_nili, cells_iface, cells_ptr, cells_nilp, cells_fn, Option.bind_some, Option.some.injEq, exists_eq_left', List.getD_cons_zero, List.getD_cons_succ, List.getElem?_cons_zero, List.getElem?_cons_succ, List.length_cons, List.length_nil, List.set_cons_zero, List.take_zero, List.drop_zero, List.nil_append, Nat.zero_add, Nat.add_zero, Nat.reduceAdd, Nat.reduceLT, Nat.reduceLeDiff, Nat.reduceEqDiff, if_true, if_false, ite_true, ite_false, reduceIte, Bool.true_and, Bool.false_and, Bool.and_true, Bool.and_false, Bool.true_or, Bool.false_or, Bool.or_true, Bool.or_false, true_and, and_true, Nat.le_refl, Nat.zero_le, List.drop_succ_cons, List.take_succ_cons, List.take_nil, List.drop_nil, List.append_nil, List.cons_append, Nat.lt_add_one, Nat.lt_irrefl, Nat.mul_one, Bool.not_true, Bool.not_false, Nat.zero_lt_succ, hx.len, List.length_map, ltT hlt, h2, h3, ir_at, and7 pa.1 pa.2, and7 pb.1 pb.2, ia, ib, hb0, hf, g1, ad, l1, p1, g2, sb, l2, p2, p3, addN hlt (show a.length ≤ big by unfold big; omega)]) | (with_reducible refine Run.gC ?_ ?_ <;> intro hb <;> try simp only [hb]) | (with_reducible refine Run.gG ?_ ?_ <;> intro hb <;> try simp only [hb]) | (with_reducible refine Run.gQ ?_ ?_ <;> intro hb <;> try simp only [hb])))
    exact hlt
  · (repeat' (first | (simp only [Run.bind, Run.ret, Run.lift, condT, condF, condN, guardTT, guardFT, guardTF, guardFF, guardS, guardNT, guardNF, Run.fail, Run.getN, Run.guardM, Run.qret, Run.newA, Run.newI, Run.newB, nil_ptr, Run.load1i, Run.load1p, Run.loadNi, Run.loadNp, Run.storeN, Run.out, Stp.normal, Stp.exit, Stp.ret, Heap.add_blk, Heap.add_next, Heap.add_floor, Heap.set_blk, Heap.set_next, Heap.set_floor, Heap.q_blk, Heap.q_next, Heap.q_floor, Heap.empty_next, Heap.empty_floor, padd_ptr, padd_iptr, arith_lss, arith_leq, arith_gtr, arith_geq, eq_int, eq_bool, eq_str, eq_nili, eq_ifnil, eq_nilif, pick_and, pick_or, pick_t, pick_f, un_not, extractV, cells_agg, cells_int, cells_bool, cells_str, cells_nils, cells_emp, cells_imm, cells_ref, cells_nili, cells_iface, cells_ptr, cells_nilp, cells_fn, Option.bind_some, Option.some.injEq, exists_eq_left', List.getD_cons_zero, List.getD_cons_succ, List.getElem?_cons_zero, List.getElem?_cons_succ, List.length_cons, List.length_nil, List.set_cons_zero, List.take_zero, List.drop_zero, List.nil_append, Nat.zero_add, Nat.add_zero, Nat.reduceAdd, Nat.reduceLT, Nat.reduceLeDiff, Nat.reduceEqDiff, if_true, if_false, ite_true, ite_false, reduceIte, Bool.true_and, Bool.false_and, Bool.and_true, Bool.and_false, Bool.true_or, Bool.false_or, Bool.or_true, Bool.or_false, true_and, and_true, Nat.le_refl, Nat.zero_le, List.drop_succ_cons, List.take_succ_cons, List.take_nil, List.drop_nil, List.append_nil, List.cons_append, Nat.lt_add_one, Nat.lt_irrefl, Nat.mul_one, Bool.not_true, Bool.not_false, Nat.zero_lt_succ, hx.len, List.length_map, ltF hlt]) | (with_reducible refine Run.gC ?_ ?_ <;> intro hb <;> try simp only [hb]) | (with_reducible refine Run.gG ?_ ?_ <;> intro hb <;> try simp only [hb]) | (with_reducible refine Run.gQ ?_ ?_ <;> intro hb <;> try simp only [hb])))
    rw [cntD_end hp (by omega)] at hb0
    have e : i = a.length := by omega
    rw [e]
    exact q _ hb0 hf

theorem relative_run (hG : TErrs G) (n : Nat) {x : V} {raw : List Tm} (hx : Sls x 2 (raw.map tmRow)) (hl : raw.length ≤ big) (tk nw : Int) : ∃ v H', sem (cfg G) (n + 9) 13 [x, .int .i64 tk, .int .i64 nw] Heap.empty = some (v, H') ∧ v = .bool true := by
  show Run (sem (cfg G) (n + 9) 13 [x, .int .i64 tk, .int .i64 nw]) Heap.empty fun v _ => v = .bool true
  rw [ferry_ferrylaw08_TimerRelative_eq]
  obtain ⟨r, e1, y, rfl, hy⟩ := formed_spec hG n hx hl
  have hok := form_ok raw
  generalize isort (formL raw) = ts at hy hok
  have hp := modI_lt tk (m := 10000) (by omega)
  have hd := modI_lt nw (m := 1010001) (by omega)
  have cp := conv_i (k := .u64) (n := tk) (m := 10000) (by decide) (by decide)
  have cd := conv_i (k := .u64) (n := nw) (m := 1010001) (by decide) (by decide)
  generalize hpe : modI tk 10000 = k0 at *
  generalize hde : modI nw 1010001 = now at *
  have ak : arithV .add (.int .i64 1) (.int .i64 k0) = some (.int .i64 (1 + k0)) := arith_add (by omega) (by omega)
  generalize hke : 1 + k0 = k at *
  have hk : 1 ≤ k ∧ k ≤ 10000 := by omega
  have an : arithV .add (.int .i64 now) (.int .i64 k) = some (.int .i64 (now + k)) := arith_add (by omega) (by omega)
  have h8 := ts_len8 hok
  have hs := shiftT_ok hok (show 0 ≤ k by omega)
  have hsl := shiftT_len ts k
  obtain ⟨c1, k1, s1⟩ := copied_eq (G := G) (n + 7) hy h8
  obtain ⟨next, k2, s2⟩ := shift_eq hG (n + 1) s1 hok hk
  have k3 := check_eq hG (n + 3) s2 hs
  obtain ⟨a, r1, k4, s3, _⟩ := fire_eq hG (n + 3) s2 hs now
  obtain ⟨b, r2, k5, s4, _⟩ := fire_eq hG (n + 3) s1 hok (now + k)
  have hperm := dues_shift (ts := ts) (k := k) (now := now) hk.1 hd.1
  have hpl := hperm.length_eq
  have k6 := find_eq (G := G) (n + 7) s2 hs
  have hal : (dues (shiftT ts k) now).length ≤ 8 := by have := dues_left_len (shiftT ts k) now; omega
  simp only [ferry_ferrylaw08_TimerRelative]
  have nd : (nums fun _ => 0).drop 8 = [] := rfl
  (repeat' (first | (simp only [Run.bind, Run.ret, Run.lift, condT, condF, condN, guardTT, guardFT, guardTF, guardFF, guardS, guardNT, guardNF, Run.fail, Run.getN, Run.guardM, Run.qret, Run.newA, Run.newI, Run.newB, nil_ptr, Run.load1i, Run.load1p, Run.loadNi, Run.loadNp, Run.storeN, Run.out, Stp.normal, Stp.exit, Stp.ret, Heap.add_blk, Heap.add_next, Heap.add_floor, Heap.set_blk, Heap.set_next, Heap.set_floor, Heap.q_blk, Heap.q_next, Heap.q_floor, Heap.empty_next, Heap.empty_floor, padd_ptr, padd_iptr, arith_lss, arith_leq, arith_gtr, arith_geq, eq_int, eq_bool, eq_str, eq_nili, eq_ifnil, eq_nilif, pick_and, pick_or, pick_t, pick_f, un_not, extractV, cells_agg, cells_int, cells_bool, cells_str, cells_nils, cells_emp, cells_imm, cells_ref, cells_nili, cells_iface, cells_ptr, cells_nilp, cells_fn, Option.bind_some, Option.some.injEq, exists_eq_left', List.getD_cons_zero, List.getD_cons_succ, List.getElem?_cons_zero, List.getElem?_cons_succ, List.length_cons, List.length_nil, List.set_cons_zero, List.take_zero, List.drop_zero, List.nil_append, Nat.zero_add, Nat.add_zero, Nat.reduceAdd, Nat.reduceLT, Nat.reduceLeDiff, Nat.reduceEqDiff, if_true, if_false, ite_true, ite_false, reduceIte, Bool.true_and, Bool.false_and, Bool.and_true, Bool.and_false, Bool.true_or, Bool.false_or, Bool.or_true, Bool.or_false, true_and, and_true, Nat.le_refl, Nat.zero_le, List.drop_succ_cons, List.take_succ_cons, List.take_nil, List.drop_nil, List.append_nil, List.cons_append, Nat.lt_add_one, Nat.lt_irrefl, Nat.mul_one, Bool.not_true, Bool.not_false, Nat.zero_lt_succ, e1, known_spec hG n, conv_u, rem_u (show (10000 : Int) ≠ 0 by decide), rem_u (show (1010001 : Int) ≠ 0 by decide), cp, cd, ak, an, k1, k2, k3, k4, k5, s2.len, s3.len, s4.len, hy.len, List.length_map, hsl, hpl, beq_self_eq_true, buildV, fill, nums_none, nums_len, nd]) | (with_reducible refine Run.gC ?_ ?_ <;> intro hb <;> try simp only [hb]) | (with_reducible refine Run.gG ?_ ?_ <;> intro hb <;> try simp only [hb]) | (with_reducible refine Run.gQ ?_ ?_ <;> intro hb <;> try simp only [hb])))
  refine relative_l1 _ s3 s4 (dues_range hs now) (dues_range hok (now + k)) hal hperm rfl (by simp [Heap.set_blk]) fun H1 hb0 hf => ?_
  have nt : (nums fun _ => 0).take 8 = nums fun _ => 0 := rfl
  (repeat' (first | (simp only [Run.bind, Run.ret, Run.lift, condT, condF, condN, guardTT, guardFT, guardTF, guardFF, guardS, guardNT, guardNF, Run.fail, Run.getN, Run.guardM, Run.qret, Run.newA, Run.newI, Run.newB, nil_ptr, Run.load1i, Run.load1p, Run.loadNi, Run.loadNp, Run.storeN, Run.out, Stp.normal, Stp.exit, Stp.ret, Heap.add_blk, Heap.add_next, Heap.add_floor, Heap.set_blk, Heap.set_next, Heap.set_floor, Heap.q_blk, Heap.q_next, Heap.q_floor, Heap.empty_next, Heap.empty_floor, padd_ptr, padd_iptr, arith_lss, arith_leq, arith_gtr, arith_geq, eq_int, eq_bool, eq_str, eq_nili, eq_ifnil, eq_nilif, pick_and, pick_or, pick_t, pick_f, un_not, extractV, cells_agg, cells_int, cells_bool, cells_str, cells_nils, cells_emp, cells_imm, cells_ref, cells_nili, cells_iface, cells_ptr, cells_nilp, cells_fn, Option.bind_some, Option.some.injEq, exists_eq_left', List.getD_cons_zero, List.getD_cons_succ, List.getElem?_cons_zero, List.getElem?_cons_succ, List.length_cons, List.length_nil, List.set_cons_zero, List.take_zero, List.drop_zero, List.nil_append, Nat.zero_add, Nat.add_zero, Nat.reduceAdd, Nat.reduceLT, Nat.reduceLeDiff, Nat.reduceEqDiff, if_true, if_false, ite_true, ite_false, reduceIte, Bool.true_and, Bool.false_and, Bool.and_true, Bool.and_false, Bool.true_or, Bool.false_or, Bool.or_true, Bool.or_false, true_and, and_true, Nat.le_refl, Nat.zero_le, List.drop_succ_cons, List.take_succ_cons, List.take_nil, List.drop_nil, List.append_nil, List.cons_append, Nat.lt_add_one, Nat.lt_irrefl, Nat.mul_one, Bool.not_true, Bool.not_false, Nat.zero_lt_succ, hb0, nums_len, nt, nums_none, nums_eq0]) | (with_reducible refine Run.gC ?_ ?_ <;> intro hb <;> try simp only [hb]) | (with_reducible refine Run.gG ?_ ?_ <;> intro hb <;> try simp only [hb]) | (with_reducible refine Run.gQ ?_ ?_ <;> intro hb <;> try simp only [hb])))
  refine Run.loop (N := ts.length) (fun i s H => s = [.bool false, .int .i64 (i : Nat)]) rfl ?_
  rintro i s H hi rfl
  simp only [ferry_ferrylaw08_TimerRelative_l2]
  by_cases hlt : i < ts.length
  · have h2 := hy.idx (k := .i64) (i := i) (by simpa using hlt)
    simp only [List.getElem_map] at h2
    have hm : shT k ts[i] ∈ shiftT ts k := isort_mem.2 (List.mem_map.2 ⟨_, List.getElem_mem hlt, rfl⟩)
    have d1 : dueOf (shiftT ts k) ts[i].proc = (shT k ts[i]).due := dueOf_mem hs.nodup hm
    have d2 : decide (timed (shiftT ts k) ts[i].proc) = true := decide_eq_true (List.mem_map.2 ⟨_, hm, rfl⟩)
    have hdue := hok.mem _ (List.getElem_mem hlt)
    have hsb : arithV .sub (.int .i64 ts[i].due) (.int .i64 k) = some (.int .i64 (ts[i].due - k)) := arith_sub (by have := hdue.2.2; omega) (by have := hdue.2.2; omega)
    have hmx : maxV (.int .i64 (ts[i].due - k)) (.int .i64 0) = some (.int .i64 (shT k ts[i]).due) := rfl
    (repeat' (first | (simp only [Run.bind, Run.ret, Run.lift, condT, condF, condN, guardTT, guardFT, guardTF, guardFF, guardS, guardNT, guardNF, Run.fail, Run.getN, Run.guardM, Run.qret, Run.newA, Run.newI, Run.newB, nil_ptr, Run.load1i, Run.load1p, Run.loadNi, Run.loadNp, Run.storeN, Run.out, Stp.normal, Stp.exit, Stp.ret, Heap.add_blk, Heap.add_next, Heap.add_floor, Heap.set_blk, Heap.set_next, Heap.set_floor, Heap.q_blk, Heap.q_next, Heap.q_floor, Heap.empty_next, Heap.empty_floor, padd_ptr, padd_iptr, arith_lss, arith_leq, arith_gtr, arith_geq, eq_int, eq_bool, eq_str, eq_nili, eq_ifnil, eq_nilif, pick_and, pick_or, pick_t, pick_f, un_not, extractV, cells_agg, cells_int, cells_bool, cells_str, cells_nils, cells_emp, cells_imm, cells_ref, cells_nili, cells_iface, cells_ptr, cells_nilp, cells_fn, Option.bind_some, Option.some.injEq, exists_eq_left', List.getD_cons_zero, List.getD_cons_succ, List.getElem?_cons_zero, List.getElem?_cons_succ, List.length_cons, List.length_nil, List.set_cons_zero, List.take_zero, List.drop_zero, List.nil_append, Nat.zero_add, Nat.add_zero, Nat.reduceAdd, Nat.reduceLT, Nat.reduceLeDiff, Nat.reduceEqDiff, if_true, if_false, ite_true, ite_false, reduceIte, Bool.true_and, Bool.false_and, Bool.and_true, Bool.and_false, Bool.true_or, Bool.false_or, Bool.or_true, Bool.or_false, true_and, and_true, Nat.le_refl, Nat.zero_le, List.drop_succ_cons, List.take_succ_cons, List.take_nil, List.drop_nil, List.append_nil, List.cons_append, Nat.lt_add_one, Nat.lt_irrefl, Nat.mul_one, Bool.not_true, Bool.not_false, Nat.zero_lt_succ, hy.len, List.length_map, ltT hlt, h2, tm_proc, tm_due, k6, d1, d2, hsb, hmx, beq_self_eq_true, addN hlt (show ts.length ≤ big by unfold big; omega)]) | (with_reducible refine Run.gC ?_ ?_ <;> intro hb <;> try simp only [hb]) | (with_reducible refine Run.gG ?_ ?_ <;> intro hb <;> try simp only [hb]) | (with_reducible refine Run.gQ ?_ ?_ <;> intro hb <;> try simp only [hb])))
    exact hlt
  · rcases Nat.eq_zero_or_pos ts.length with h0 | h0
    · have e0 : decide ((0 : Int) < (ts.length : Int)) = false := decide_eq_false (by omega)
      (repeat' (first | (simp only [Run.bind, Run.ret, Run.lift, condT, condF, condN, guardTT, guardFT, guardTF, guardFF, guardS, guardNT, guardNF, Run.fail, Run.getN, Run.guardM, Run.qret, Run.newA, Run.newI, Run.newB, nil_ptr, Run.load1i, Run.load1p, Run.loadNi, Run.loadNp, Run.storeN, Run.out, Stp.normal, Stp.exit, Stp.ret, Heap.add_blk, Heap.add_next, Heap.add_floor, Heap.set_blk, Heap.set_next, Heap.set_floor, Heap.q_blk, Heap.q_next, Heap.q_floor, Heap.empty_next, Heap.empty_floor, padd_ptr, padd_iptr, arith_lss, arith_leq, arith_gtr, arith_geq, eq_int, eq_bool, eq_str, eq_nili, eq_ifnil, eq_nilif, pick_and, pick_or, pick_t, pick_f, un_not, extractV, cells_agg, cells_int, cells_bool, cells_str, cells_nils, cells_emp, cells_imm, cells_ref, cells_nili, cells_iface, cells_ptr, cells_nilp, cells_fn, Option.bind_some, Option.some.injEq, exists_eq_left', List.getD_cons_zero, List.getD_cons_succ, List.getElem?_cons_zero, List.getElem?_cons_succ, List.length_cons, List.length_nil, List.set_cons_zero, List.take_zero, List.drop_zero, List.nil_append, Nat.zero_add, Nat.add_zero, Nat.reduceAdd, Nat.reduceLT, Nat.reduceLeDiff, Nat.reduceEqDiff, if_true, if_false, ite_true, ite_false, reduceIte, Bool.true_and, Bool.false_and, Bool.and_true, Bool.and_false, Bool.true_or, Bool.false_or, Bool.or_true, Bool.or_false, true_and, and_true, Nat.le_refl, Nat.zero_le, List.drop_succ_cons, List.take_succ_cons, List.take_nil, List.drop_nil, List.append_nil, List.cons_append, Nat.lt_add_one, Nat.lt_irrefl, Nat.mul_one, Bool.not_true, Bool.not_false, Nat.zero_lt_succ, hy.len, List.length_map, ltF hlt, e0]) | (with_reducible refine Run.gC ?_ ?_ <;> intro hb <;> try simp only [hb]) | (with_reducible refine Run.gG ?_ ?_ <;> intro hb <;> try simp only [hb]) | (with_reducible refine Run.gQ ?_ ?_ <;> intro hb <;> try simp only [hb])))
    · have e0 : decide ((0 : Int) < (ts.length : Int)) = true := decide_eq_true (by omega)
      have h3 := hy.idx (k := .i64) (i := 0) (by simpa using h0)
      simp only [List.getElem_map, Int.natCast_zero] at h3
      (repeat' (first | (simp only [Run.bind, Run.ret, Run.lift, condT, condF, condN, guardTT, guardFT, guardTF, guardFF, guardS, guardNT, guardNF, Run.fail, Run.getN, Run.guardM, Run.qret, Run.newA, Run.newI, Run.newB, nil_ptr, Run.load1i, Run.load1p, Run.loadNi, Run.loadNp, Run.storeN, Run.out, Stp.normal, Stp.exit, Stp.ret, Heap.add_blk, Heap.add_next, Heap.add_floor, Heap.set_blk, Heap.set_next, Heap.set_floor, Heap.q_blk, Heap.q_next, Heap.q_floor, Heap.empty_next, Heap.empty_floor, padd_ptr, padd_iptr, arith_lss, arith_leq, arith_gtr, arith_geq, eq_int, eq_bool, eq_str, eq_nili, eq_ifnil, eq_nilif, pick_and, pick_or, pick_t, pick_f, un_not, extractV, cells_agg, cells_int, cells_bool, cells_str, cells_nils, cells_emp, cells_imm, cells_ref, cells_nili, cells_iface, cells_ptr, cells_nilp, cells_fn, Option.bind_some, Option.some.injEq, exists_eq_left', List.getD_cons_zero, List.getD_cons_succ, List.getElem?_cons_zero, List.getElem?_cons_succ, List.length_cons, List.length_nil, List.set_cons_zero, List.take_zero, List.drop_zero, List.nil_append, Nat.zero_add, Nat.add_zero, Nat.reduceAdd, Nat.reduceLT, Nat.reduceLeDiff, Nat.reduceEqDiff, if_true, if_false, ite_true, ite_false, reduceIte, Bool.true_and, Bool.false_and, Bool.and_true, Bool.and_false, Bool.true_or, Bool.false_or, Bool.or_true, Bool.or_false, true_and, and_true, Nat.le_refl, Nat.zero_le, List.drop_succ_cons, List.take_succ_cons, List.take_nil, List.drop_nil, List.append_nil, List.cons_append, Nat.lt_add_one, Nat.lt_irrefl, Nat.mul_one, Bool.not_true, Bool.not_false, Nat.zero_lt_succ, hy.len, List.length_map, ltF hlt, e0, h3, tm_due]) | (with_reducible refine Run.gC ?_ ?_ <;> intro hb <;> try simp only [hb]) | (with_reducible refine Run.gG ?_ ?_ <;> intro hb <;> try simp only [hb]) | (with_reducible refine Run.gQ ?_ ?_ <;> intro hb <;> try simp only [hb])))
      have hfirst := first_le hok (t0 := ts[0]) (List.getElem?_eq_getElem h0)
      have hge : ∀ t ∈ ts, k ≤ t.due := fun t ht => by have := hfirst t ht; have := of_decide_eq_true hb; omega
      have hsame := shiftT_same hok hk.1 hge
      rw [hsame] at s2 s3
      rw [dues_map hk.1 hd.1] at s3
      refine Run.loop (N := ts.length) (fun i s H => s = [.bool false, .int .i64 (i : Nat)]) rfl ?_
      rintro j s H hj rfl
      simp only [ferry_ferrylaw08_TimerRelative_l3]
      by_cases hlj : j < ts.length
      · have h4 := hy.idx (k := .i64) (i := j) (by simpa using hlj)
        have h5 := s2.idx (k := .i64) (i := j) (by simpa using hlj)
        simp only [List.getElem_map] at h4 h5
        have hpr : (shT k ts[j]).proc = ts[j].proc := rfl
        (repeat' (first | (simp only [Run.bind, Run.ret, Run.lift, condT, condF, condN, guardTT, guardFT, guardTF, guardFF, guardS, guardNT, guardNF, Run.fail, Run.getN, Run.guardM, Run.qret, Run.newA, Run.newI, Run.newB, nil_ptr, Run.load1i, Run.load1p, Run.loadNi, Run.loadNp, Run.storeN, Run.out, Stp.normal, Stp.exit, Stp.ret, Heap.add_blk, Heap.add_next, Heap.add_floor, Heap.set_blk, Heap.set_next, Heap.set_floor, Heap.q_blk, Heap.q_next, Heap.q_floor, Heap.empty_next, Heap.empty_floor, padd_ptr, padd_iptr, arith_lss, arith_leq, arith_gtr, arith_geq, eq_int, eq_bool, eq_str, eq_nili, eq_ifnil, eq_nilif, pick_and, pick_or, pick_t, pick_f, un_not, extractV, cells_agg, cells_int, cells_bool, cells_str, cells_nils, cells_emp, cells_imm, cells_ref, cells_nili, cells_iface, cells_ptr, cells_nilp, cells_fn, Option.bind_some, Option.some.injEq, exists_eq_left', List.getD_cons_zero, List.getD_cons_succ, List.getElem?_cons_zero, List.getElem?_cons_succ, List.length_cons, List.length_nil, List.set_cons_zero, List.take_zero, List.drop_zero, List.nil_append, Nat.zero_add, Nat.add_zero, Nat.reduceAdd, Nat.reduceLT, Nat.reduceLeDiff, Nat.reduceEqDiff, if_true, if_false, ite_true, ite_false, reduceIte, Bool.true_and, Bool.false_and, Bool.and_true, Bool.and_false, Bool.true_or, Bool.false_or, Bool.or_true, Bool.or_false, true_and, and_true, Nat.le_refl, Nat.zero_le, List.drop_succ_cons, List.take_succ_cons, List.take_nil, List.drop_nil, List.append_nil, List.cons_append, Nat.lt_add_one, Nat.lt_irrefl, Nat.mul_one, Bool.not_true, Bool.not_false, Nat.zero_lt_succ, hy.len, List.length_map, ltT hlj, h4, h5, tm_proc, hpr, beq_self_eq_true, addN hlj (show ts.length ≤ big by unfold big; omega)]) | (with_reducible refine Run.gC ?_ ?_ <;> intro hb <;> try simp only [hb]) | (with_reducible refine Run.gG ?_ ?_ <;> intro hb <;> try simp only [hb]) | (with_reducible refine Run.gQ ?_ ?_ <;> intro hb <;> try simp only [hb])))
        exact hlj
      · have k7 := ints08_spec (G := G) (n + 7) s3 s4 (by have := dues_left_len ts (now + k); unfold big; omega)
        (repeat' (first | (simp only [Run.bind, Run.ret, Run.lift, condT, condF, condN, guardTT, guardFT, guardTF, guardFF, guardS, guardNT, guardNF, Run.fail, Run.getN, Run.guardM, Run.qret, Run.newA, Run.newI, Run.newB, nil_ptr, Run.load1i, Run.load1p, Run.loadNi, Run.loadNp, Run.storeN, Run.out, Stp.normal, Stp.exit, Stp.ret, Heap.add_blk, Heap.add_next, Heap.add_floor, Heap.set_blk, Heap.set_next, Heap.set_floor, Heap.q_blk, Heap.q_next, Heap.q_floor, Heap.empty_next, Heap.empty_floor, padd_ptr, padd_iptr, arith_lss, arith_leq, arith_gtr, arith_geq, eq_int, eq_bool, eq_str, eq_nili, eq_ifnil, eq_nilif, pick_and, pick_or, pick_t, pick_f, un_not, extractV, cells_agg, cells_int, cells_bool, cells_str, cells_nils, cells_emp, cells_imm, cells_ref, cells_nili, cells_iface, cells_ptr, cells_nilp, cells_fn, Option.bind_some, Option.some.injEq, exists_eq_left', List.getD_cons_zero, List.getD_cons_succ, List.getElem?_cons_zero, List.getElem?_cons_succ, List.length_cons, List.length_nil, List.set_cons_zero, List.take_zero, List.drop_zero, List.nil_append, Nat.zero_add, Nat.add_zero, Nat.reduceAdd, Nat.reduceLT, Nat.reduceLeDiff, Nat.reduceEqDiff, if_true, if_false, ite_true, ite_false, reduceIte, Bool.true_and, Bool.false_and, Bool.and_true, Bool.and_false, Bool.true_or, Bool.false_or, Bool.or_true, Bool.or_false, true_and, and_true, Nat.le_refl, Nat.zero_le, List.drop_succ_cons, List.take_succ_cons, List.take_nil, List.drop_nil, List.append_nil, List.cons_append, Nat.lt_add_one, Nat.lt_irrefl, Nat.mul_one, Bool.not_true, Bool.not_false, Nat.zero_lt_succ, hy.len, List.length_map, ltF hlj, k7, decide_true]) | (with_reducible refine Run.gC ?_ ?_ <;> intro hb <;> try simp only [hb]) | (with_reducible refine Run.gG ?_ ?_ <;> intro hb <;> try simp only [hb]) | (with_reducible refine Run.gQ ?_ ?_ <;> intro hb <;> try simp only [hb])))
end Go.Fv.Tr
