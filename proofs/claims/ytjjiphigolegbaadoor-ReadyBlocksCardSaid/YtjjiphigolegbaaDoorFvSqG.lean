/-
  The law ReadyFires, run to its end. By an AI agent; no person has read it.
-/
import Derived.Test.YtjjiphigolegbaaDoorFvSqD
set_option linter.unusedVariables false
set_option linter.unusedSimpArgs false
set_option linter.unusedSectionVars false
/-! The law ReadyFires, run to its end. -/
namespace Go.Fv.Tr
open Go Go.Fv Go.Fv.Pl Go.Proofs
set_option linter.unusedSimpArgs false
set_option linter.unusedVariables false
variable {G : Nat → Option (List V)}

theorem wakes_in {r : Pr → Int} : ∀ {l : List Int} {t : Tab} {m : Int} {q : Pr}, (∀ n ∈ l, 0 ≤ n) → l.Nodup → m ∈ l → at? t.ps m = some q → at? (t.wakes r l).ps m = some (wakeP (r q) q)
  | n :: l, t, m, q, h0, hn, hm, hq => by
    have hn' := List.nodup_cons.1 hn
    by_cases e : m = n
    · subst e
      rw [Tab.wakes, wakes_at (fun a ha => h0 a (by simp [ha])) hn'.1, Tab.wake, at?_set (h0 m (by simp)), if_pos rfl, hq]
      rfl
    · rw [Tab.wakes]
      refine wakes_in (fun a ha => h0 a (by simp [ha])) hn'.2 ((List.mem_cons.1 hm).resolve_left e) ?_
      rw [Tab.wake, at?_set (h0 n (by simp)), if_neg e, hq]
theorem pr_reg1 {p : Pr} (h : Wp p) (r1 : Int) : (prRow (wakeP r1 p))[1]? = some (.int .u32 r1) := by
  obtain ⟨a0, a1, a2, a3, a4, a5, a6, a7, a8, a9, a10, a11, a12, a13, a14, a15, hregs⟩ := len16 h
  unfold prRow wakeP
  rw [hregs]
  rfl
theorem _root_.Go.Fv.Own.thawQ {H : Heap} {x : V} {sz : Nat} {rows : List (List V)} (h : Own H x sz rows) (hf : flatRows rows = true) :
    ∃ y, Sls y sz rows ∧ ∀ (v : Nat → Bool) (n f : Nat), (∀ l, loc x = some l → v l = true) → thawV true ⟨fun l => if v l then H.blk l else none, n, f⟩ x = some y := by
  rcases h with ⟨rfl | rfl, rfl⟩ | ⟨l, n, c, ex, b, rfl, h1, h2, h3, h4, h5, rfl⟩
  · exact ⟨.nils, Sls.nils _, fun _ _ _ _ => rfl⟩
  · exact ⟨.emp, Sls.emp _, fun _ _ _ _ => rfl⟩
  · refine ⟨.imm sz (b.rows.take n), Sls.imm _ _, fun v _ _ hv => ?_⟩
    have : n ≤ b.rows.length := by omega
    simp [Fv.thawV, Fv.thaw, h1, this, hf, hv l rfl]
set_option maxRecDepth 20000 in
theorem fires_j2 (hA : AErrs G) (n : Nat) {H : Heap} {x y z : V} {t : Tab} (hb : H.blk 0 = some ⟨3, [[x, y, z]]⟩) (hf : H.floor = 0) (hn : 0 < H.next) (h : IsTab x y z t) {now later : Int} (hle : now ≤ later) :
    Run (ferry_ferrylaw09_ReadyFires_j2 G (sem (cfg G) (n + 9)) (.ptr 0 0 0) (.bool false) (.int .i64 now) (.int .i64 later)) H fun r _ => r.2.getD 0 .undef = .bool true := by
  obtain ⟨q1, e1, a1⟩ := fireR_spec hA.terrs hA.errs (n + 1) h now
  simp only [ferry_ferrylaw09_ReadyFires_j2]
  have z0 : ¬ 0 = H.next := by omega
  have z1 : ¬ 0 = H.next + 1 := by omega
  have z2 : ¬ 0 = H.next + 1 + 1 := by omega
  have z3 : ¬ H.next = H.next + 1 := by omega
  have z4 : ¬ H.next = H.next + 1 + 1 := by omega
  have z5 : ¬ H.next + 1 = H.next + 1 + 1 := by omega
  by_cases hok : TabOk t
  · rcases a1 with ⟨_, xa, xb, xc, xd, rfl, ta, sa⟩ | ⟨g, _⟩
    case inr => exact absurd hok g
    obtain ⟨q2, e2, a2⟩ := fireR_spec hA.terrs hA.errs (n + 1) ta later
    obtain ⟨q3, e3, a3⟩ := fireR_spec hA.terrs hA.errs (n + 1) h later
    rcases a2 with ⟨_, ya, yb, yc, yd, rfl, tb, sb⟩ | ⟨g, _⟩
    case inr => exact absurd (hok.fire now) g
    rcases a3 with ⟨_, wa, wb, wc, wd, rfl, tc, sc⟩ | ⟨g, _⟩
    case inr => exact absurd hok g
    have ff := fire_fire hok hle
    have eqT := equal_spec (G := G) (n + 7) tb tc
    rw [decide_eq_true ff.2] at eqT
    have l1 := (dues_wl hok now).len hok
    have l2 := (dues_wl (hok.fire now) later).len (hok.fire now)
    have l3 := (dues_wl hok later).len hok
    (repeat' (first | (simp only [wp, extractV, exists_eq_left', if_true, if_false, ite_true, ite_false, reduceIte, Nat.reduceAdd, Nat.reduceLT, Nat.reduceLeDiff, Nat.reduceEqDiff, hb, to_spec (n + 8) h, e1, e2, e3, ref_good_spec (n + 6) h, decide_eq_true hok, from_spec (n + 8) tb, from_spec (n + 8) tc, eqT, z0, z1, z2, z3, z4, z5, hf, Run.slice0]) | (with_reducible refine Run.gC ?_ ?_ <;> intro hb <;> try simp only [hb]) | (with_reducible refine Run.gG ?_ ?_ <;> intro hb <;> try simp only [hb]) | (with_reducible refine Run.gQ ?_ ?_ <;> intro hb <;> try simp only [hb])))
    refine (tapp_fresh (by simp [Heap.q_next, Heap.q_floor, Heap.set_next, Heap.set_floor, Heap.add_next, Heap.add_floor, hf]) sa (by rw [List.length_map]; unfold room; omega)).mono fun v1 H1 ⟨o1, f1, k1⟩ => ?_
    have c0 : H1.blk 0 = some ⟨3, [[x, y, z]]⟩ := (f1.old 0 (by exact Nat.zero_lt_succ _) id).trans (by simp [Heap.q_blk, Heap.q_next, Heap.q_floor, Heap.set_blk, Heap.set_next, Heap.set_floor, Heap.add_blk, Heap.add_next, Heap.add_floor, z0, z1, z2, hb])
    have c2 : H1.blk (H.next + 1 + 1) = some ⟨3, [[wa, wb, wc]]⟩ := (f1.old _ (by exact Nat.lt_succ_self _) id).trans (by simp [Heap.q_blk, Heap.q_next, Heap.q_floor, Heap.set_blk, Heap.set_next, Heap.set_floor, Heap.add_blk, Heap.add_next, Heap.add_floor])
    have g1 : H1.floor = 0 := f1.floor.trans (by simp [Heap.q_blk, Heap.q_next, Heap.q_floor, Heap.set_blk, Heap.set_next, Heap.set_floor, Heap.add_blk, Heap.add_next, Heap.add_floor, hf])
    have n1 : H.next + 1 + 1 + 1 ≤ H1.next := f1.next
    have m1 : ∀ l, loc v1 = some l → H.next + 1 + 1 + 1 ≤ l := k1
    clear f1 k1
    (repeat' (first | (simp only [wp, extractV, exists_eq_left', if_true, if_false, ite_true, ite_false, reduceIte, Nat.reduceAdd, Nat.reduceLT, Nat.reduceLeDiff, Nat.reduceEqDiff]) | (with_reducible refine Run.gC ?_ ?_ <;> intro hb <;> try simp only [hb]) | (with_reducible refine Run.gG ?_ ?_ <;> intro hb <;> try simp only [hb]) | (with_reducible refine Run.gQ ?_ ?_ <;> intro hb <;> try simp only [hb])))
    refine (Run.tapp (items := (dues (t.fire now).ts later).map intRow) (by rw [g1]; exact Nat.zero_le _) o1 (fun l hl => ?_) (sb.items _) (by simp only [List.length_map]; unfold room; omega)).mono fun v2 H2 ⟨o2, f2, k2⟩ => ?_
    · have := m1 l hl
      have := o1.lt hl
      simp [visB]
      omega
    have d0 : H2.blk 0 = some ⟨3, [[x, y, z]]⟩ := (f2.old 0 (by omega) fun g => by have := m1 _ g; omega).trans c0
    have d2 : H2.blk (H.next + 1 + 1) = some ⟨3, [[wa, wb, wc]]⟩ := (f2.old _ (by omega) fun g => by have := m1 _ g; omega).trans c2
    have g2 : H2.floor = 0 := f2.floor.trans g1
    rw [← List.map_append, ← ff.1] at o2
    obtain ⟨u2, s2, t2⟩ := o2.thawQ (flat_ir _)
    have hn2 := f2.next
    (repeat' (first | (simp only [wp, extractV, exists_eq_left', if_true, if_false, ite_true, ite_false, reduceIte, Nat.reduceAdd, Nat.reduceLT, Nat.reduceLeDiff, Nat.reduceEqDiff]) | (with_reducible refine Run.gC ?_ ?_ <;> intro hb <;> try simp only [hb]) | (with_reducible refine Run.gG ?_ ?_ <;> intro hb <;> try simp only [hb]) | (with_reducible refine Run.gQ ?_ ?_ <;> intro hb <;> try simp only [hb])))
    refine (Run.qcallRef (bs := [u2, wd]) rfl (mapMV2 (t2 _ _ _ fun l hl => ?_) (sls_thawV sc _)) (closed2 s2.closedV sc.closedV) (equalInts_spec (n + 8) s2 sc (by unfold big; omega)) rfl).2 ?_
    · have := o2.lt hl
      have : H.next + 1 + 1 + 1 ≤ l := by
        rcases k2 l hl with g | g
        · exact m1 l g
        · omega
      simp [visB]
      omega
    have e0 : H.next + 1 + 1 < H2.next := by omega
    have e1 : 0 < H2.next := by omega
    (repeat' (first | (simp only [wp, extractV, exists_eq_left', if_true, if_false, ite_true, ite_false, reduceIte, Nat.reduceAdd, Nat.reduceLT, Nat.reduceLeDiff, Nat.reduceEqDiff, decide_true, d2, tc.s.len, List.length_map, e0]) | (with_reducible refine Run.gC ?_ ?_ <;> intro hb <;> try simp only [hb]) | (with_reducible refine Run.gG ?_ ?_ <;> intro hb <;> try simp only [hb]) | (with_reducible refine Run.gQ ?_ ?_ <;> intro hb <;> try simp only [hb])))
    clear t2 s2 o1 f2 k2 m1 c0 c2
    generalize H.next + 1 + 1 = wn at d2 e0 ⊢
    refine Run.loop (N := (t.fire later).ts.length) (fun i s H => s = [.bool false, .int .i64 (i : Nat)] ∧ H.floor = 0 ∧ 0 < H.next ∧ wn < H.next ∧ H.blk 0 = some ⟨3, [[x, y, z]]⟩ ∧ H.blk wn = some ⟨3, [[wa, wb, wc]]⟩) ⟨rfl, by simp [Heap.q_blk, Heap.q_next, Heap.q_floor, Heap.set_blk, Heap.set_next, Heap.set_floor, Heap.add_blk, Heap.add_next, Heap.add_floor, g2], by simp [Heap.q_blk, Heap.q_next, Heap.q_floor, Heap.set_blk, Heap.set_next, Heap.set_floor, Heap.add_blk, Heap.add_next, Heap.add_floor, e1], by simp [Heap.q_blk, Heap.q_next, Heap.q_floor, Heap.set_blk, Heap.set_next, Heap.set_floor, Heap.add_blk, Heap.add_next, Heap.add_floor, e0], by simp [Heap.q_blk, Heap.q_next, Heap.q_floor, Heap.set_blk, Heap.set_next, Heap.set_floor, Heap.add_blk, Heap.add_next, Heap.add_floor, e1, d0], by simp [Heap.q_blk, Heap.q_next, Heap.q_floor, Heap.set_blk, Heap.set_next, Heap.set_floor, Heap.add_blk, Heap.add_next, Heap.add_floor, e0, d2]⟩ ?_
    rintro i s K hi ⟨rfl, b1, b2, b3, b4, b5⟩
    have w0 : ¬ 0 = K.next := by omega
    have w1 : ¬ wn = K.next := by omega
    by_cases hlt : i < (t.fire later).ts.length
    · have i1 := tc.s.idx (k := .i64) (i := i) (by simpa using hlt)
      simp only [List.getElem_map] at i1
      have hdue : ¬ (t.fire later).ts[i].due ≤ later := by
        have : (t.fire later).ts[i] ∈ t.ts.filter (fun x => later < x.due) := by rw [← fire_ts hok]; exact List.getElem_mem _
        have := (List.mem_filter.1 this).2
        simp only [decide_eq_true_eq] at this
        omega
      simp only [ferry_ferrylaw09_ReadyFires_l1]
      (repeat' (first | (simp only [wp, extractV, exists_eq_left', if_true, if_false, ite_true, ite_false, reduceIte, Nat.reduceAdd, Nat.reduceLT, Nat.reduceLeDiff, Nat.reduceEqDiff, ltT hlt, i1, tm_len, tm_take, tm_due, decide_eq_false hdue, addN hlt tc.big.2.2, b1]) | (with_reducible refine Run.gC ?_ ?_ <;> intro hb <;> try simp only [hb]) | (with_reducible refine Run.gG ?_ ?_ <;> intro hb <;> try simp only [hb]) | (with_reducible refine Run.gQ ?_ ?_ <;> intro hb <;> try simp only [hb])))
      exact ⟨hlt, by omega, by simp [Heap.q_blk, Heap.q_next, Heap.q_floor, Heap.set_blk, Heap.set_next, Heap.set_floor, Heap.add_blk, Heap.add_next, Heap.add_floor, w0, b4], by simp [Heap.q_blk, Heap.q_next, Heap.q_floor, Heap.set_blk, Heap.set_next, Heap.set_floor, Heap.add_blk, Heap.add_next, Heap.add_floor, w1, b5]⟩
    simp only [ferry_ferrylaw09_ReadyFires_l1]
    (repeat' (first | (simp only [wp, extractV, exists_eq_left', if_true, if_false, ite_true, ite_false, reduceIte, Nat.reduceAdd, Nat.reduceLT, Nat.reduceLeDiff, Nat.reduceEqDiff, ltF hlt, sc.len, List.length_map]) | (with_reducible refine Run.gC ?_ ?_ <;> intro hb <;> try simp only [hb]) | (with_reducible refine Run.gG ?_ ?_ <;> intro hb <;> try simp only [hb]) | (with_reducible refine Run.gQ ?_ ?_ <;> intro hb <;> try simp only [hb])))
    refine Run.loop (N := (dues t.ts later).length) (fun i s H => s = [.bool false, .int .i64 (i : Nat)] ∧ H.blk 0 = some ⟨3, [[x, y, z]]⟩ ∧ H.blk wn = some ⟨3, [[wa, wb, wc]]⟩) ⟨rfl, b4, b5⟩ ?_
    rintro j s H hj ⟨rfl, b4, b5⟩
    by_cases hlj : j < (dues t.ts later).length
    · have i1 := sc.idx (k := .i64) (i := j) (by simpa using hlj)
      simp only [List.getElem_map] at i1
      simp only [ferry_ferrylaw09_ReadyFires_l2, ferry_ferrylaw09_ReadyFires_j1]
      have hm := List.getElem_mem hlj
      obtain ⟨q, hq, hq2⟩ := Option.map_eq_some_iff.1 (dues_wait hok later _ hm)
      have hw := wakes_in (r := lateOf) (fun n hn => by
        obtain ⟨q, hq, _⟩ := Option.map_eq_some_iff.1 (dues_wait hok later n hn)
        exact (at?_lt hq).1) (dues_nodup hok.ts later) hm hq
      obtain ⟨j1, w1⟩ := h.at hq
      obtain ⟨j2, w2⟩ := tc.at (show at? (t.fire later).ps (dues t.ts later)[j] = some (wakeP (lateOf q) q) from hw)
      have hlt0 := at?_lt hq
      have el : (t.fire later).ps.length = t.ps.length := wakes_len
      have r0 : decide ((dues t.ts later)[j] < 0) = false := decide_eq_false (by omega)
      have r1 : decide ((t.ps.length : Int) ≤ (dues t.ts later)[j]) = false := decide_eq_false (by omega)
      have r2 : decide (((t.fire later).ps.length : Int) ≤ (dues t.ts later)[j]) = false := decide_eq_false (by omega)
      have ai : ∀ row : List V, aidxV 16 1 (.iptr row 0) (.int .i64 1) = some (.iptr row 1) := fun row => by simp [aidxV, padd]
      by_cases hw1 : q.wait = 1
      · have e1 : (q.wait == 1) = true := by simpa using hw1
        have e2 : lateOf q = 0 := if_pos hw1
        rw [e2] at j2 w2
        (repeat' (first | (simp only [wp, extractV, exists_eq_left', if_true, if_false, ite_true, ite_false, reduceIte, Nat.reduceAdd, Nat.reduceLT, Nat.reduceLeDiff, Nat.reduceEqDiff, ltT hlj, i1, ir_at, r0, r1, r2, b4, b5, h.p.len, tc.p.len, List.length_map, j1, j2, pr_wait w1, pr_state w2, (show ((wakeP 0 q).state == 1) = true from rfl), pr_reg1 w1, ai, e1, beq_self_eq_true, addN hlj (show (dues t.ts later).length ≤ big by unfold big; omega)]) | (with_reducible refine Run.gC ?_ ?_ <;> intro hb <;> try simp only [hb]) | (with_reducible refine Run.gG ?_ ?_ <;> intro hb <;> try simp only [hb]) | (with_reducible refine Run.gQ ?_ ?_ <;> intro hb <;> try simp only [hb])))
        exact hlj
      · have e1 : (q.wait == 1) = false := by simpa using hw1
        have e2 : lateOf q = 4294967294 := if_neg hw1
        rw [e2] at j2 w2
        (repeat' (first | (simp only [wp, extractV, exists_eq_left', if_true, if_false, ite_true, ite_false, reduceIte, Nat.reduceAdd, Nat.reduceLT, Nat.reduceLeDiff, Nat.reduceEqDiff, ltT hlj, i1, ir_at, r0, r1, r2, b4, b5, h.p.len, tc.p.len, List.length_map, j1, j2, pr_wait w1, pr_state w2, (show ((wakeP 4294967294 q).state == 1) = true from rfl), pr_reg1 w1, ai, e1, beq_self_eq_true, addN hlj (show (dues t.ts later).length ≤ big by unfold big; omega)]) | (with_reducible refine Run.gC ?_ ?_ <;> intro hb <;> try simp only [hb]) | (with_reducible refine Run.gG ?_ ?_ <;> intro hb <;> try simp only [hb]) | (with_reducible refine Run.gQ ?_ ?_ <;> intro hb <;> try simp only [hb])))
        exact hlj
    · simp only [ferry_ferrylaw09_ReadyFires_l2]
      (repeat' (first | (simp only [wp, extractV, exists_eq_left', if_true, if_false, ite_true, ite_false, reduceIte, Nat.reduceAdd, Nat.reduceLT, Nat.reduceLeDiff, Nat.reduceEqDiff, ltF hlj]) | (with_reducible refine Run.gC ?_ ?_ <;> intro hb <;> try simp only [hb]) | (with_reducible refine Run.gG ?_ ?_ <;> intro hb <;> try simp only [hb]) | (with_reducible refine Run.gQ ?_ ?_ <;> intro hb <;> try simp only [hb])))
  · rcases a1 with ⟨g, _⟩ | ⟨_, rfl⟩
    · exact absurd g hok
    (repeat' (first | (simp only [wp, extractV, exists_eq_left', if_true, if_false, ite_true, ite_false, reduceIte, Nat.reduceAdd, Nat.reduceLT, Nat.reduceLeDiff, Nat.reduceEqDiff, hb, to_spec (n + 8) h, e1, ref_good_spec (n + 6) h, decide_eq_false hok, z0, hf, plain_spec hA (n + 6) num_state, decide_true, lenV, beq_self_eq_true, tupV]) | (with_reducible refine Run.gC ?_ ?_ <;> intro hb <;> try simp only [hb]) | (with_reducible refine Run.gG ?_ ?_ <;> intro hb <;> try simp only [hb]) | (with_reducible refine Run.gQ ?_ ?_ <;> intro hb <;> try simp only [hb])))

set_option maxRecDepth 20000 in
theorem fires_run (hA : AErrs G) (n : Nat) {x y z : V} {t : Tab} (h : IsTab x y z t) (now later : Int) :
    ∃ v H', sem (cfg G) (n + 10) 8 [.agg [x, y, z], .int .i64 now, .int .i64 later] Heap.empty = some (v, H') ∧ v = .bool true := by
  show Run (sem (cfg G) (n + 10) 8 [.agg [x, y, z], .int .i64 now, .int .i64 later]) Heap.empty fun v _ => v = .bool true
  rw [ferry_ferrylaw09_ReadyFires_eq]
  simp only [ferry_ferrylaw09_ReadyFires]
  obtain ⟨fs, ef, hfs⟩ := fireR_spec hA.terrs hA.errs (n + 1) some_tab 10
  rcases hfs with ⟨_, fa, fb, fc, fd, rfl, ft, fsl⟩ | ⟨hb, _⟩
  case inr => exact absurd some_ok hb
  rw [dues_some] at fsl
  have hl : lenV fd = some (.int .i64 1) := fsl.len
  by_cases hle : now ≤ later
  · (repeat' (first | (simp only [wp, extractV, exists_eq_left', if_true, if_false, ite_true, ite_false, reduceIte, Nat.reduceAdd, Nat.reduceLT, Nat.reduceLeDiff, Nat.reduceEqDiff, some_spec (n + 8), to_spec (n + 8) some_tab, ef, hl, beq_self_eq_true, decide_eq_false (show ¬ later < now by omega)]) | (with_reducible refine Run.gC ?_ ?_ <;> intro hb <;> try simp only [hb]) | (with_reducible refine Run.gG ?_ ?_ <;> intro hb <;> try simp only [hb]) | (with_reducible refine Run.gQ ?_ ?_ <;> intro hb <;> try simp only [hb])))
    exact fires_j2 hA n rfl rfl (by exact Nat.zero_lt_succ _) h hle
  · (repeat' (first | (simp only [wp, extractV, exists_eq_left', if_true, if_false, ite_true, ite_false, reduceIte, Nat.reduceAdd, Nat.reduceLT, Nat.reduceLeDiff, Nat.reduceEqDiff, some_spec (n + 8), to_spec (n + 8) some_tab, ef, hl, beq_self_eq_true, decide_eq_true (show later < now by omega)]) | (with_reducible refine Run.gC ?_ ?_ <;> intro hb <;> try simp only [hb]) | (with_reducible refine Run.gG ?_ ?_ <;> intro hb <;> try simp only [hb]) | (with_reducible refine Run.gQ ?_ ?_ <;> intro hb <;> try simp only [hb])))
    exact fires_j2 hA n rfl rfl (by exact Nat.zero_lt_succ _) h (by omega)
end Go.Fv.Tr
