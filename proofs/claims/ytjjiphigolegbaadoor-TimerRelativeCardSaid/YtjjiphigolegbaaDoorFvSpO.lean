/-
  The laws of the layer 8: what is known, what is formed; firing in steps. By an AI agent; no person has read it.
-/
import Derived.Test.YtjjiphigolegbaaDoorFvSpN
set_option linter.unusedVariables false
set_option linter.unusedSimpArgs false
set_option linter.unusedSectionVars false
/-! The laws of the layer 8: what is known, what is formed; firing in steps. -/
namespace Go.Fv.Tr
open Go Go.Fv Go.Fv.Pl Go.Proofs
set_option linter.unusedSimpArgs false
set_option linter.unusedVariables false
variable {G : Nat → Option (List V)}

theorem set_known : setT [⟨0, 7⟩] 2 5 = [⟨2, 5⟩, ⟨0, 7⟩] := by decide
theorem ok_known : TsOk 8 [⟨2, 5⟩, ⟨0, 7⟩] := TsOk_iff.2 ⟨by decide, by decide, by decide⟩
theorem ok_known0 : TsOk 8 [⟨0, 7⟩] := TsOk_iff.2 ⟨by decide, by decide, by decide⟩
theorem known_spec (hG : TErrs G) (n : Nat) : callV (cfg G) (sem (cfg G) (n + 8)) 53 [] = M.ret (.bool true) := by
  refine callV_pure0 rfl rfl rfl ?_
  rw [ferry_ferrylaw08_known_eq]
  simp only [ferry_ferrylaw08_known]
  (repeat' (first | (simp only [Run.bind, Run.ret, Run.lift, condT, condF, condN, guardTT, guardFT, guardTF, guardFF, guardS, guardNT, guardNF, Run.fail, Run.getN, Run.guardM, Run.qret, Run.newA, Run.newI, Run.newB, nil_ptr, Run.load1i, Run.load1p, Run.loadNi, Run.loadNp, Run.storeN, Run.out, Stp.normal, Stp.exit, Stp.ret, Heap.add_blk, Heap.add_next, Heap.add_floor, Heap.set_blk, Heap.set_next, Heap.set_floor, Heap.q_blk, Heap.q_next, Heap.q_floor, Heap.empty_next, Heap.empty_floor, padd_ptr, padd_iptr, arith_lss, arith_leq, arith_gtr, arith_geq, eq_int, eq_bool, eq_str, eq_nili, eq_ifnil, eq_nilif, pick_and, pick_or, pick_t, pick_f, un_not, extractV, cells_agg, cells_int, cells_bool, cells_str, cells_nils, cells_emp, cells_imm, cells_ref, cells_nili, cells_iface, cells_ptr, cells_nilp, cells_fn, Option.bind_some, Option.some.injEq, exists_eq_left', List.getD_cons_zero, List.getD_cons_succ, List.getElem?_cons_zero, List.getElem?_cons_succ, List.length_cons, List.length_nil, List.set_cons_zero, List.take_zero, List.drop_zero, List.nil_append, Nat.zero_add, Nat.add_zero, Nat.reduceAdd, Nat.reduceLT, Nat.reduceLeDiff, Nat.reduceEqDiff, if_true, if_false, ite_true, ite_false, reduceIte, Bool.true_and, Bool.false_and, Bool.and_true, Bool.and_false, Bool.true_or, Bool.false_or, Bool.or_true, Bool.or_false, true_and, and_true, Nat.le_refl, Nat.zero_le, List.drop_succ_cons, List.take_succ_cons, List.take_nil, List.drop_nil, List.append_nil, List.cons_append, Nat.lt_add_one, Nat.lt_irrefl, Nat.mul_one, Bool.not_true, Bool.not_false, Nat.zero_lt_succ, buildV, fill, putRow]) | (with_reducible refine Run.gC ?_ ?_ <;> intro hb <;> try simp only [hb]) | (with_reducible refine Run.gG ?_ ?_ <;> intro hb <;> try simp only [hb]) | (with_reducible refine Run.gQ ?_ ?_ <;> intro hb <;> try simp only [hb])))
  refine (Run.slice (n := 0)).2 ⟨[tmRow ⟨0, 7⟩], rfl, ?_⟩
  have hx : Sls (.imm 2 [tmRow ⟨0, 7⟩]) 2 (([⟨0, 7⟩] : List Tm).map tmRow) := Sls.imm _ _
  refine Run.ans (bs := [.imm 2 [tmRow ⟨0, 7⟩], .int .i64 2, .int .i64 5]) rfl ?_ (set_spec hG n hx (by decide) 2 5) fun r hr => ?_
  · simp [thawV, thaw, Heap.add_blk, flatRows, V.flat, tmRow]
  · rcases hr with ⟨_, _, y, rfl, hy⟩ | ⟨_, h, _⟩ | ⟨h, _⟩
    · rw [set_known] at hy
      (repeat' (first | (simp only [Run.bind, Run.ret, Run.lift, condT, condF, condN, guardTT, guardFT, guardTF, guardFF, guardS, guardNT, guardNF, Run.fail, Run.getN, Run.guardM, Run.qret, Run.newA, Run.newI, Run.newB, nil_ptr, Run.load1i, Run.load1p, Run.loadNi, Run.loadNp, Run.storeN, Run.out, Stp.normal, Stp.exit, Stp.ret, Heap.add_blk, Heap.add_next, Heap.add_floor, Heap.set_blk, Heap.set_next, Heap.set_floor, Heap.q_blk, Heap.q_next, Heap.q_floor, Heap.empty_next, Heap.empty_floor, padd_ptr, padd_iptr, arith_lss, arith_leq, arith_gtr, arith_geq, eq_int, eq_bool, eq_str, eq_nili, eq_ifnil, eq_nilif, pick_and, pick_or, pick_t, pick_f, un_not, extractV, cells_agg, cells_int, cells_bool, cells_str, cells_nils, cells_emp, cells_imm, cells_ref, cells_nili, cells_iface, cells_ptr, cells_nilp, cells_fn, Option.bind_some, Option.some.injEq, exists_eq_left', List.getD_cons_zero, List.getD_cons_succ, List.getElem?_cons_zero, List.getElem?_cons_succ, List.length_cons, List.length_nil, List.set_cons_zero, List.take_zero, List.drop_zero, List.nil_append, Nat.zero_add, Nat.add_zero, Nat.reduceAdd, Nat.reduceLT, Nat.reduceLeDiff, Nat.reduceEqDiff, if_true, if_false, ite_true, ite_false, reduceIte, Bool.true_and, Bool.false_and, Bool.and_true, Bool.and_false, Bool.true_or, Bool.false_or, Bool.or_true, Bool.or_false, true_and, and_true, Nat.le_refl, Nat.zero_le, List.drop_succ_cons, List.take_succ_cons, List.take_nil, List.drop_nil, List.append_nil, List.cons_append, Nat.lt_add_one, Nat.lt_irrefl, Nat.mul_one, Bool.not_true, Bool.not_false, Nat.zero_lt_succ]) | (with_reducible refine Run.gC ?_ ?_ <;> intro hb <;> try simp only [hb]) | (with_reducible refine Run.gG ?_ ?_ <;> intro hb <;> try simp only [hb]) | (with_reducible refine Run.gQ ?_ ?_ <;> intro hb <;> try simp only [hb])))
      obtain ⟨r2, e2, h2⟩ := (fire_spec hG (n + 2) hy (by decide) 6).eq rfl (by simp [hy.closedV, cI])
      rcases h2 with ⟨_, u, v, rfl, hu, hv⟩ | ⟨h, _⟩
      · rw [show dues [⟨2, 5⟩, ⟨0, 7⟩] 6 = [2] by decide] at hu
        rw [show left [⟨2, 5⟩, ⟨0, 7⟩] 6 = [⟨0, 7⟩] by decide] at hv
        have i1 := hu.idx (k := .i64) (i := 0) (by decide)
        have i2 := hv.idx (k := .i64) (i := 0) (by decide)
        simp only [List.map_cons, List.map_nil, List.getElem_cons_zero, Int.natCast_zero] at i1 i2
        have l1 := hu.len
        have l2 := hv.len
        have l3 := hy.len
        simp only [List.map_cons, List.map_nil, List.length_cons, List.length_nil] at l1 l2 l3
        (repeat' (first | (simp only [Run.bind, Run.ret, Run.lift, condT, condF, condN, guardTT, guardFT, guardTF, guardFF, guardS, guardNT, guardNF, Run.fail, Run.getN, Run.guardM, Run.qret, Run.newA, Run.newI, Run.newB, nil_ptr, Run.load1i, Run.load1p, Run.loadNi, Run.loadNp, Run.storeN, Run.out, Stp.normal, Stp.exit, Stp.ret, Heap.add_blk, Heap.add_next, Heap.add_floor, Heap.set_blk, Heap.set_next, Heap.set_floor, Heap.q_blk, Heap.q_next, Heap.q_floor, Heap.empty_next, Heap.empty_floor, padd_ptr, padd_iptr, arith_lss, arith_leq, arith_gtr, arith_geq, eq_int, eq_bool, eq_str, eq_nili, eq_ifnil, eq_nilif, pick_and, pick_or, pick_t, pick_f, un_not, extractV, cells_agg, cells_int, cells_bool, cells_str, cells_nils, cells_emp, cells_imm, cells_ref, cells_nili, cells_iface, cells_ptr, cells_nilp, cells_fn, Option.bind_some, Option.some.injEq, exists_eq_left', List.getD_cons_zero, List.getD_cons_succ, List.getElem?_cons_zero, List.getElem?_cons_succ, List.length_cons, List.length_nil, List.set_cons_zero, List.take_zero, List.drop_zero, List.nil_append, Nat.zero_add, Nat.add_zero, Nat.reduceAdd, Nat.reduceLT, Nat.reduceLeDiff, Nat.reduceEqDiff, if_true, if_false, ite_true, ite_false, reduceIte, Bool.true_and, Bool.false_and, Bool.and_true, Bool.and_false, Bool.true_or, Bool.false_or, Bool.or_true, Bool.or_false, true_and, and_true, Nat.le_refl, Nat.zero_le, List.drop_succ_cons, List.take_succ_cons, List.take_nil, List.drop_nil, List.append_nil, List.cons_append, Nat.lt_add_one, Nat.lt_irrefl, Nat.mul_one, Bool.not_true, Bool.not_false, Nat.zero_lt_succ, e2, i1, i2, l1, l2, l3, ir_at, tm_due, Nat.reduceAdd]) | (with_reducible refine Run.gC ?_ ?_ <;> intro hb <;> try simp only [hb]) | (with_reducible refine Run.gG ?_ ?_ <;> intro hb <;> try simp only [hb]) | (with_reducible refine Run.gQ ?_ ?_ <;> intro hb <;> try simp only [hb])))
        all_goals simp_all
      · exact absurd ok_known h
    · exact absurd (by decide) h
    · exact absurd ok_known0 h

def modI (n : Int) (m : Int) : Int := (IntKind.u64.wrap n).tmod m
theorem modI_lt (n : Int) {m : Int} (hm : 0 < m) : 0 ≤ modI n m ∧ modI n m < m := by
  unfold modI
  have h : 0 ≤ IntKind.u64.wrap n := by simp [IntKind.wrap, IntKind.bits, IntKind.signed]; omega
  rw [Int.tmod_eq_emod_of_nonneg h]
  exact ⟨Int.emod_nonneg _ (by omega), Int.emod_lt_of_pos _ hm⟩
theorem rem_u {a b : Int} (h : b ≠ 0) : arithV .rem (.int .u64 a) (.int .u64 b) = some (.int .u64 (a.tmod b)) := by simp [arithV, h]
theorem conv_u {k : IntKind} {n : Int} : convI .u64 (.int k n) = some (.int .u64 (IntKind.u64.wrap n)) := rfl
theorem conv_i {k : IntKind} {n : Int} {m : Int} (hm : 0 < m) (h : m ≤ 9223372036854775807) : convI .i64 (.int k ((IntKind.u64.wrap n).tmod m)) = some (.int .i64 (modI n m)) := by
  have := modI_lt n hm
  unfold modI at this ⊢
  simp only [convI]
  rw [IntWalk.i64_in _ (by omega)]
def formT (t : Tm) : Tm := ⟨modI t.proc 8, modI t.due 1010001⟩
def addF (l : List Tm) (t : Tm) : List Tm := if (formT t).proc ∈ l.map Tm.proc then l else l ++ [formT t]
def formL (raw : List Tm) : List Tm := raw.foldl addF []
theorem formL_snoc (l : List Tm) (t : Tm) : formL (l ++ [t]) = addF (formL l) t := by unfold formL; rw [List.foldl_append]; rfl
theorem formT_right (t : Tm) : right 8 (formT t) := by
  have h1 := modI_lt t.proc (m := 8) (by omega)
  have h2 := modI_lt t.due (m := 1010001) (by omega)
  simp only [right, formT]
  omega
theorem addF_ok {l : List Tm} (h : allRight l ∧ (l.map Tm.proc).Nodup) (t : Tm) : allRight (addF l t) ∧ ((addF l t).map Tm.proc).Nodup := by
  unfold addF
  split
  · exact h
  · rename_i hn
    refine ⟨fun x hx => ?_, ?_⟩
    · rcases List.mem_append.1 hx with g | g
      · exact h.1 x g
      · rw [List.mem_singleton] at g; subst g; exact formT_right t
    · rw [List.map_append, List.nodup_append]
      refine ⟨h.2, by simp, fun a ha b hb e => hn ?_⟩
      simp only [List.map_cons, List.map_nil, List.mem_singleton] at hb
      rw [← hb, ← e]; exact ha
theorem formL_ok' : ∀ (raw l : List Tm), allRight l ∧ (l.map Tm.proc).Nodup → allRight (raw.foldl addF l) ∧ ((raw.foldl addF l).map Tm.proc).Nodup
  | [], l, h => h
  | t :: raw, l, h => formL_ok' raw _ (addF_ok h t)
theorem formL_ok (raw : List Tm) : allRight (formL raw) ∧ ((formL raw).map Tm.proc).Nodup := formL_ok' raw [] ⟨by simp [allRight], by simp⟩
theorem form_ok (raw : List Tm) : TsOk 8 (isort (formL raw)) := isort_ok (formL_ok raw).1 (formL_ok raw).2

theorem formed_spec (hG : TErrs G) (n : Nat) {x : V} {raw : List Tm} (hx : Sls x 2 (raw.map tmRow)) (hl : raw.length ≤ big) :
    ∃ r, callV (cfg G) (sem (cfg G) (n + 8)) 52 [x] = M.ret r ∧ ∃ y, r = .tuple [y, .bool true] ∧ Sls y 2 ((isort (formL raw)).map tmRow) := by
  refine callV_pureE rfl (by simp [hx.closedV]) ?_
  rw [ferry_ferrylaw08_formed_eq]
  simp only [ferry_ferrylaw08_formed, marks_none]
  have md : (marks fun _ => false).drop 8 = [] := rfl
  (repeat' (first | (simp only [Run.bind, Run.ret, Run.lift, condT, condF, condN, guardTT, guardFT, guardTF, guardFF, guardS, guardNT, guardNF, Run.fail, Run.getN, Run.guardM, Run.qret, Run.newA, Run.newI, Run.newB, nil_ptr, Run.load1i, Run.load1p, Run.loadNi, Run.loadNp, Run.storeN, Run.out, Stp.normal, Stp.exit, Stp.ret, Heap.add_blk, Heap.add_next, Heap.add_floor, Heap.set_blk, Heap.set_next, Heap.set_floor, Heap.q_blk, Heap.q_next, Heap.q_floor, Heap.empty_next, Heap.empty_floor, padd_ptr, padd_iptr, arith_lss, arith_leq, arith_gtr, arith_geq, eq_int, eq_bool, eq_str, eq_nili, eq_ifnil, eq_nilif, pick_and, pick_or, pick_t, pick_f, un_not, extractV, cells_agg, cells_int, cells_bool, cells_str, cells_nils, cells_emp, cells_imm, cells_ref, cells_nili, cells_iface, cells_ptr, cells_nilp, cells_fn, Option.bind_some, Option.some.injEq, exists_eq_left', List.getD_cons_zero, List.getD_cons_succ, List.getElem?_cons_zero, List.getElem?_cons_succ, List.length_cons, List.length_nil, List.set_cons_zero, List.take_zero, List.drop_zero, List.nil_append, Nat.zero_add, Nat.add_zero, Nat.reduceAdd, Nat.reduceLT, Nat.reduceLeDiff, Nat.reduceEqDiff, if_true, if_false, ite_true, ite_false, reduceIte, Bool.true_and, Bool.false_and, Bool.and_true, Bool.and_false, Bool.true_or, Bool.false_or, Bool.or_true, Bool.or_false, true_and, and_true, Nat.le_refl, Nat.zero_le, List.drop_succ_cons, List.take_succ_cons, List.take_nil, List.drop_nil, List.append_nil, List.cons_append, Nat.lt_add_one, Nat.lt_irrefl, Nat.mul_one, Bool.not_true, Bool.not_false, Nat.zero_lt_succ, buildV, fill, marks_len, md]) | (with_reducible refine Run.gC ?_ ?_ <;> intro hb <;> try simp only [hb]) | (with_reducible refine Run.gG ?_ ?_ <;> intro hb <;> try simp only [hb]) | (with_reducible refine Run.gQ ?_ ?_ <;> intro hb <;> try simp only [hb])))
  refine Run.loop (N := raw.length) (fun i s H => ∃ l, s = [l, .int .i64 (i : Nat)] ∧ H.floor = 0 ∧ 0 < H.next ∧ loc l ≠ some 0 ∧ Own H l 2 ((formL (raw.take i)).map tmRow) ∧
      H.blk 0 = some ⟨8, [marks fun j => decide (((j : Nat) : Int) ∈ (formL (raw.take i)).map Tm.proc)]⟩)
    ⟨_, rfl, rfl, by simp [Heap.add_next, Heap.set_next], (by intro h; cases h), Own.nils _ _, by simp [Heap.set_blk, formL]⟩ ?_
  rintro i s H hi ⟨l, rfl, hf, hn, hl0, ho, hb0⟩
  have hfo := formL_ok (raw.take i)
  have hlen := nodup8 hfo.1 hfo.2
  by_cases hlt : i < raw.length
  · have h2 := hx.idx (k := .i64) (i := i) (by simpa using hlt)
    simp only [List.getElem_map] at h2
    have hp := formT_right raw[i]
    have hp0 : (formT raw[i]).proc = modI raw[i].proc 8 := rfl
    have hd0 : (formT raw[i]).due = modI raw[i].due 1010001 := rfl
    have ha : aidxV 8 1 (.ptr 0 0 0) (.int .i64 (modI raw[i].proc 8)) = some (.ptr 0 0 (formT raw[i]).proc.toNat) := by
      have := aidx_in (l := 0) (i := 0) (o := 0) hp.1 (n := 8) (by have := hp.2.1; omega)
      rwa [Nat.mul_one, Nat.zero_add] at this
    have h8 : (formT raw[i]).proc.toNat < 8 := by have := hp.2.1; have := hp.1; omega
    have hg := marks_get (fun j => decide (((j : Nat) : Int) ∈ (formL (raw.take i)).map Tm.proc)) h8
    have hle : (formT raw[i]).proc.toNat + 1 ≤ (marks fun j => decide (((j : Nat) : Int) ∈ (formL (raw.take i)).map Tm.proc)).length := by rw [marks_len]; omega
    simp only [Int.toNat_of_nonneg hp.1] at hg
    have hmk := marks_next (l := (formL (raw.take i)).map Tm.proc) hp.1 (by have := hp.2.1; omega : (formT raw[i]).proc < 8)
    have hsn : formL (raw.take (i + 1)) = addF (formL (raw.take i)) raw[i] := by rw [take_snoc hlt, formL_snoc]
    simp only [ferry_ferrylaw08_formed_l1, ferry_ferrylaw08_formed_j1]
    (repeat' (first | (simp only [Run.bind, Run.ret, Run.lift, condT, condF, condN, guardTT, guardFT, guardTF, guardFF, guardS, guardNT, guardNF, Run.fail, Run.getN, Run.guardM, Run.qret, Run.newA, Run.newI, Run.newB, nil_ptr, Run.load1i, Run.load1p, Run.loadNi, Run.loadNp, Run.storeN, Run.out, Stp.normal, Stp.exit, Stp.ret, Heap.add_blk, Heap.add_next, Heap.add_floor, Heap.set_blk, Heap.set_next, Heap.set_floor, Heap.q_blk, Heap.q_next, Heap.q_floor, Heap.empty_next, Heap.empty_floor, padd_ptr, padd_iptr, arith_lss, arith_leq, arith_gtr, arith_geq, eq_int, eq_bool, eq_str, eq_nili, eq_ifnil, eq_nilif, pick_and, pick_or, pick_t, pick_f, un_not, extractV, cells_agg, cells_int, cells_bool, cells_str, cells_nils, cells_emp, cells_imm, cells_ref, cells_nili, cells_iface, cells_ptr, cells_nilp, cells_fn, Option.bind_some, Option.some.injEq, exists_eq_left', List.getD_cons_zero, List.getD_cons_succ, List.getElem?_cons_zero, List.getElem?_cons_succ, List.length_cons, List.length_nil, List.set_cons_zero, List.take_zero, List.drop_zero, List.nil_append, Nat.zero_add, Nat.add_zero, Nat.reduceAdd, Nat.reduceLT, Nat.reduceLeDiff, Nat.reduceEqDiff, if_true, if_false, ite_true, ite_false, reduceIte, Bool.true_and, Bool.false_and, Bool.and_true, Bool.and_false, Bool.true_or, Bool.false_or, Bool.or_true, Bool.or_false, true_and, and_true, Nat.le_refl, Nat.zero_le, List.drop_succ_cons, List.take_succ_cons, List.take_nil, List.drop_nil, List.append_nil, List.cons_append, Nat.lt_add_one, Nat.lt_irrefl, Nat.mul_one, Bool.not_true, Bool.not_false, Nat.zero_lt_succ, hx.len, List.length_map, ltT hlt, h2, hf, tm_len, tm_take, tm_proc, tm_due, conv_u, rem_u (show (8 : Int) ≠ 0 by decide), rem_u (show (1010001 : Int) ≠ 0 by decide), conv_i (m := 8) (by decide) (by decide), conv_i (m := 1010001) (by decide) (by decide), ha, hb0, hg, hle]) | (with_reducible refine Run.gC ?_ ?_ <;> intro hb <;> try simp only [hb]) | (with_reducible refine Run.gG ?_ ?_ <;> intro hb <;> try simp only [hb]) | (with_reducible refine Run.gQ ?_ ?_ <;> intro hb <;> try simp only [hb])))
    · have hin : formL (raw.take (i + 1)) = formL (raw.take i) := by rw [hsn]; exact if_pos (of_decide_eq_true hb)
      (repeat' (first | (simp only [Run.bind, Run.ret, Run.lift, condT, condF, condN, guardTT, guardFT, guardTF, guardFF, guardS, guardNT, guardNF, Run.fail, Run.getN, Run.guardM, Run.qret, Run.newA, Run.newI, Run.newB, nil_ptr, Run.load1i, Run.load1p, Run.loadNi, Run.loadNp, Run.storeN, Run.out, Stp.normal, Stp.exit, Stp.ret, Heap.add_blk, Heap.add_next, Heap.add_floor, Heap.set_blk, Heap.set_next, Heap.set_floor, Heap.q_blk, Heap.q_next, Heap.q_floor, Heap.empty_next, Heap.empty_floor, padd_ptr, padd_iptr, arith_lss, arith_leq, arith_gtr, arith_geq, eq_int, eq_bool, eq_str, eq_nili, eq_ifnil, eq_nilif, pick_and, pick_or, pick_t, pick_f, un_not, extractV, cells_agg, cells_int, cells_bool, cells_str, cells_nils, cells_emp, cells_imm, cells_ref, cells_nili, cells_iface, cells_ptr, cells_nilp, cells_fn, Option.bind_some, Option.some.injEq, exists_eq_left', List.getD_cons_zero, List.getD_cons_succ, List.getElem?_cons_zero, List.getElem?_cons_succ, List.length_cons, List.length_nil, List.set_cons_zero, List.take_zero, List.drop_zero, List.nil_append, Nat.zero_add, Nat.add_zero, Nat.reduceAdd, Nat.reduceLT, Nat.reduceLeDiff, Nat.reduceEqDiff, if_true, if_false, ite_true, ite_false, reduceIte, Bool.true_and, Bool.false_and, Bool.and_true, Bool.and_false, Bool.true_or, Bool.false_or, Bool.or_true, Bool.or_false, true_and, and_true, Nat.le_refl, Nat.zero_le, List.drop_succ_cons, List.take_succ_cons, List.take_nil, List.drop_nil, List.append_nil, List.cons_append, Nat.lt_add_one, Nat.lt_irrefl, Nat.mul_one, Bool.not_true, Bool.not_false, Nat.zero_lt_succ, addN hlt hl]) | (with_reducible refine Run.gC ?_ ?_ <;> intro hb <;> try simp only [hb]) | (with_reducible refine Run.gG ?_ ?_ <;> intro hb <;> try simp only [hb]) | (with_reducible refine Run.gQ ?_ ?_ <;> intro hb <;> try simp only [hb])))
      exact ⟨hlt, _, rfl, hf, hn, hl0, by rw [hin]; exact ho, by rw [hin]; exact hb0⟩
    · have hin : formL (raw.take (i + 1)) = formL (raw.take i) ++ [formT raw[i]] := by rw [hsn]; exact if_neg (of_decide_eq_false hb)
      (repeat' (first | (simp only [Run.bind, Run.ret, Run.lift, condT, condF, condN, guardTT, guardFT, guardTF, guardFF, guardS, guardNT, guardNF, Run.fail, Run.getN, Run.guardM, Run.qret, Run.newA, Run.newI, Run.newB, nil_ptr, Run.load1i, Run.load1p, Run.loadNi, Run.loadNp, Run.storeN, Run.out, Stp.normal, Stp.exit, Stp.ret, Heap.add_blk, Heap.add_next, Heap.add_floor, Heap.set_blk, Heap.set_next, Heap.set_floor, Heap.q_blk, Heap.q_next, Heap.q_floor, Heap.empty_next, Heap.empty_floor, padd_ptr, padd_iptr, arith_lss, arith_leq, arith_gtr, arith_geq, eq_int, eq_bool, eq_str, eq_nili, eq_ifnil, eq_nilif, pick_and, pick_or, pick_t, pick_f, un_not, extractV, cells_agg, cells_int, cells_bool, cells_str, cells_nils, cells_emp, cells_imm, cells_ref, cells_nili, cells_iface, cells_ptr, cells_nilp, cells_fn, Option.bind_some, Option.some.injEq, exists_eq_left', List.getD_cons_zero, List.getD_cons_succ, List.getElem?_cons_zero, List.getElem?_cons_succ, List.length_cons, List.length_nil, List.set_cons_zero, List.take_zero, List.drop_zero, List.nil_append, Nat.zero_add, Nat.add_zero, Nat.reduceAdd, Nat.reduceLT, Nat.reduceLeDiff, Nat.reduceEqDiff, if_true, if_false, ite_true, ite_false, reduceIte, Bool.true_and, Bool.false_and, Bool.and_true, Bool.and_false, Bool.true_or, Bool.false_or, Bool.or_true, Bool.or_false, true_and, and_true, Nat.le_refl, Nat.zero_le, List.drop_succ_cons, List.take_succ_cons, List.take_nil, List.drop_nil, List.append_nil, List.cons_append, Nat.lt_add_one, Nat.lt_irrefl, Nat.mul_one, Bool.not_true, Bool.not_false, Nat.zero_lt_succ, buildV, fill, putRow]) | (with_reducible refine Run.gC ?_ ?_ <;> intro hb <;> try simp only [hb]) | (with_reducible refine Run.gG ?_ ?_ <;> intro hb <;> try simp only [hb]) | (with_reducible refine Run.gQ ?_ ?_ <;> intro hb <;> try simp only [hb])))
      refine (Run.slice (n := 0)).2 ⟨[tmRow (formT raw[i])], rfl, ?_⟩
      rw [hmk]
      have fr0 : Frame H (H.set 0 ⟨8, [marks fun j => decide (((j : Nat) : Int) ∈ (formL (raw.take i)).map Tm.proc ++ [(formT raw[i]).proc])]⟩) (fun k => k = 0) := Frame.set _ _ rfl
      have fr2 := fr0.trans (Frame.add ⟨2, [tmRow (formT raw[i])]⟩ (fun _ => False)) (r := fun k => k = 0) (fun _ _ h => h) (fun _ _ h => h.elim)
      refine (Run.app (items := [tmRow (formT raw[i])]) (by rw [fr2.floor, hf]; exact Nat.zero_le _) (ho.frame fr2 fun k hk e => hl0 (e ▸ hk)) (by simp [itemsV, Heap.add_next, Heap.add_blk]) (by simp only [List.length_map, List.length_cons, List.length_nil]; unfold room; omega)).mono fun x' H3 ⟨o3, f3, l3⟩ => ?_
      (repeat' (first | (simp only [Run.bind, Run.ret, Run.lift, condT, condF, condN, guardTT, guardFT, guardTF, guardFF, guardS, guardNT, guardNF, Run.fail, Run.getN, Run.guardM, Run.qret, Run.newA, Run.newI, Run.newB, nil_ptr, Run.load1i, Run.load1p, Run.loadNi, Run.loadNp, Run.storeN, Run.out, Stp.normal, Stp.exit, Stp.ret, Heap.add_blk, Heap.add_next, Heap.add_floor, Heap.set_blk, Heap.set_next, Heap.set_floor, Heap.q_blk, Heap.q_next, Heap.q_floor, Heap.empty_next, Heap.empty_floor, padd_ptr, padd_iptr, arith_lss, arith_leq, arith_gtr, arith_geq, eq_int, eq_bool, eq_str, eq_nili, eq_ifnil, eq_nilif, pick_and, pick_or, pick_t, pick_f, un_not, extractV, cells_agg, cells_int, cells_bool, cells_str, cells_nils, cells_emp, cells_imm, cells_ref, cells_nili, cells_iface, cells_ptr, cells_nilp, cells_fn, Option.bind_some, Option.some.injEq, exists_eq_left', List.getD_cons_zero, List.getD_cons_succ, List.getElem?_cons_zero, List.getElem?_cons_succ, List.length_cons, List.length_nil, List.set_cons_zero, List.take_zero, List.drop_zero, List.nil_append, Nat.zero_add, Nat.add_zero, Nat.reduceAdd, Nat.reduceLT, Nat.reduceLeDiff, Nat.reduceEqDiff, if_true, if_false, ite_true, ite_false, reduceIte, Bool.true_and, Bool.false_and, Bool.and_true, Bool.and_false, Bool.true_or, Bool.false_or, Bool.or_true, Bool.or_false, true_and, and_true, Nat.le_refl, Nat.zero_le, List.drop_succ_cons, List.take_succ_cons, List.take_nil, List.drop_nil, List.append_nil, List.cons_append, Nat.lt_add_one, Nat.lt_irrefl, Nat.mul_one, Bool.not_true, Bool.not_false, Nat.zero_lt_succ, addN hlt hl]) | (with_reducible refine Run.gC ?_ ?_ <;> intro hb <;> try simp only [hb]) | (with_reducible refine Run.gG ?_ ?_ <;> intro hb <;> try simp only [hb]) | (with_reducible refine Run.gQ ?_ ?_ <;> intro hb <;> try simp only [hb])))
      have hnx := fr2.next
      have hnx3 := f3.next
      refine ⟨hlt, _, rfl, by rw [f3.floor, fr2.floor, hf], by omega, fun e => ?_, by rw [hin, List.map_append]; exact o3, ?_⟩
      · rcases l3 0 e with h | h
        · exact hl0 h
        · omega
      · rw [hin, List.map_append, f3.old 0 (by omega) hl0, Heap.add_old (by exact hn), Heap.set_blk, if_pos rfl]; rfl
  · simp only [ferry_ferrylaw08_formed_l1]
    have htk : raw.take i = raw := take_all (by omega)
    rw [htk] at ho hfo hlen
    (repeat' (first | (simp only [Run.bind, Run.ret, Run.lift, condT, condF, condN, guardTT, guardFT, guardTF, guardFF, guardS, guardNT, guardNF, Run.fail, Run.getN, Run.guardM, Run.qret, Run.newA, Run.newI, Run.newB, nil_ptr, Run.load1i, Run.load1p, Run.loadNi, Run.loadNp, Run.storeN, Run.out, Stp.normal, Stp.exit, Stp.ret, Heap.add_blk, Heap.add_next, Heap.add_floor, Heap.set_blk, Heap.set_next, Heap.set_floor, Heap.q_blk, Heap.q_next, Heap.q_floor, Heap.empty_next, Heap.empty_floor, padd_ptr, padd_iptr, arith_lss, arith_leq, arith_gtr, arith_geq, eq_int, eq_bool, eq_str, eq_nili, eq_ifnil, eq_nilif, pick_and, pick_or, pick_t, pick_f, un_not, extractV, cells_agg, cells_int, cells_bool, cells_str, cells_nils, cells_emp, cells_imm, cells_ref, cells_nili, cells_iface, cells_ptr, cells_nilp, cells_fn, Option.bind_some, Option.some.injEq, exists_eq_left', List.getD_cons_zero, List.getD_cons_succ, List.getElem?_cons_zero, List.getElem?_cons_succ, List.length_cons, List.length_nil, List.set_cons_zero, List.take_zero, List.drop_zero, List.nil_append, Nat.zero_add, Nat.add_zero, Nat.reduceAdd, Nat.reduceLT, Nat.reduceLeDiff, Nat.reduceEqDiff, if_true, if_false, ite_true, ite_false, reduceIte, Bool.true_and, Bool.false_and, Bool.and_true, Bool.and_false, Bool.true_or, Bool.false_or, Bool.or_true, Bool.or_false, true_and, and_true, Nat.le_refl, Nat.zero_le, List.drop_succ_cons, List.take_succ_cons, List.take_nil, List.drop_nil, List.append_nil, List.cons_append, Nat.lt_add_one, Nat.lt_irrefl, Nat.mul_one, Bool.not_true, Bool.not_false, Nat.zero_lt_succ, hx.len, List.length_map, ltF hlt]) | (with_reducible refine Run.gC ?_ ?_ <;> intro hb <;> try simp only [hb]) | (with_reducible refine Run.gG ?_ ?_ <;> intro hb <;> try simp only [hb]) | (with_reducible refine Run.gQ ?_ ?_ <;> intro hb <;> try simp only [hb])))
    obtain ⟨w, hw, _, hs⟩ := ho.thawV (flat_tm _) true
    refine Run.ans (bs := [w]) rfl (by simp [hw]) (sort_spec hG n hs (by unfold big; omega)) fun r hr => ?_
    rcases hr with ⟨_, _, y, rfl, hy⟩ | ⟨_, h, _⟩ | ⟨h, _⟩
    · have hil : (isort (formL raw)).length = (formL raw).length := isort_len _
      have e1 : orNil (TsOk 8 (isort (formL raw))) 0 = .nili := if_pos (form_ok raw)
      have hb : (isort (formL raw)).length ≤ big := by rw [hil]; unfold big; omega
      (repeat' (first | (simp only [Run.bind, Run.ret, Run.lift, condT, condF, condN, guardTT, guardFT, guardTF, guardFF, guardS, guardNT, guardNF, Run.fail, Run.getN, Run.guardM, Run.qret, Run.newA, Run.newI, Run.newB, nil_ptr, Run.load1i, Run.load1p, Run.loadNi, Run.loadNp, Run.storeN, Run.out, Stp.normal, Stp.exit, Stp.ret, Heap.add_blk, Heap.add_next, Heap.add_floor, Heap.set_blk, Heap.set_next, Heap.set_floor, Heap.q_blk, Heap.q_next, Heap.q_floor, Heap.empty_next, Heap.empty_floor, padd_ptr, padd_iptr, arith_lss, arith_leq, arith_gtr, arith_geq, eq_int, eq_bool, eq_str, eq_nili, eq_ifnil, eq_nilif, pick_and, pick_or, pick_t, pick_f, un_not, extractV, cells_agg, cells_int, cells_bool, cells_str, cells_nils, cells_emp, cells_imm, cells_ref, cells_nili, cells_iface, cells_ptr, cells_nilp, cells_fn, Option.bind_some, Option.some.injEq, exists_eq_left', List.getD_cons_zero, List.getD_cons_succ, List.getElem?_cons_zero, List.getElem?_cons_succ, List.length_cons, List.length_nil, List.set_cons_zero, List.take_zero, List.drop_zero, List.nil_append, Nat.zero_add, Nat.add_zero, Nat.reduceAdd, Nat.reduceLT, Nat.reduceLeDiff, Nat.reduceEqDiff, if_true, if_false, ite_true, ite_false, reduceIte, Bool.true_and, Bool.false_and, Bool.and_true, Bool.and_false, Bool.true_or, Bool.false_or, Bool.or_true, Bool.or_false, true_and, and_true, Nat.le_refl, Nat.zero_le, List.drop_succ_cons, List.take_succ_cons, List.take_nil, List.drop_nil, List.append_nil, List.cons_append, Nat.lt_add_one, Nat.lt_irrefl, Nat.mul_one, Bool.not_true, Bool.not_false, Nat.zero_lt_succ, check8 hG (n + 2) hy hb, e1, hy.len, ho.len, List.length_map, hil, beq_self_eq_true]) | (with_reducible refine Run.gC ?_ ?_ <;> intro hb <;> try simp only [hb]) | (with_reducible refine Run.gG ?_ ?_ <;> intro hb <;> try simp only [hb]) | (with_reducible refine Run.gQ ?_ ?_ <;> intro hb <;> try simp only [hb])))
      refine ⟨_, thawV_closedT (by simp [V.closedT, hy.closedV, cB]) _, _, rfl, hy⟩
    · exact absurd hfo.2 h
    · exact absurd hfo.1 h

theorem dues_dues {l : List Tm} (h : TsOk 8 l) {now later : Int} (hle : now ≤ later) : dues l later = dues l now ++ dues (left l now) later := by
  unfold dues left
  rw [filter_split h.pairwise hle, List.map_append]
theorem left_left {l : List Tm} {now later : Int} (hle : now ≤ later) : left (left l now) later = left l later := by
  unfold left
  rw [List.filter_filter]
  refine List.filter_congr fun a _ => ?_
  simp only [Bool.and_eq_decide, decide_eq_true_eq]
  exact decide_eq_decide.2 ⟨fun h => h.1, fun h => ⟨h, by omega⟩⟩
theorem left_ok {l : List Tm} (h : TsOk 8 l) (now : Int) : TsOk 8 (left l now) := h.filter _
theorem dues_left_len (l : List Tm) (now : Int) : (dues l now).length + (left l now).length = l.length := by
  unfold dues left
  rw [List.length_map]
  induction l with
  | nil => rfl
  | cons a l ih => by_cases h : a.due ≤ now
                   · rw [List.filter_cons_of_pos (by simpa using h), List.filter_cons_of_neg (by simp; omega)]; simp only [List.length_cons]; omega
                   · rw [List.filter_cons_of_neg (by simpa using h), List.filter_cons_of_pos (by simp; omega)]; simp only [List.length_cons]; omega
end Go.Fv.Tr
