/-
  What the functions of the layer 9 answer: Halt, Start, Rank. By an AI agent; no person has read it.
-/
import Derived.Test.YtjjiphigolegbabGreatDoorFvSqH
import Derived.Test.YtjjiphigolegbabGreatDoorFvTr13
set_option linter.unusedVariables false
set_option linter.unusedSimpArgs false
set_option linter.unusedSectionVars false
/-! What the functions of the layer 9 answer: Halt, Start, Rank. -/
namespace Go.Fv.Tr
open Go Go.Fv Go.Fv.Pl Go.Proofs
set_option linter.unusedSimpArgs false
set_option linter.unusedVariables false
variable {G : Nat → Option (List V)}

set_option maxRecDepth 20000 in
theorem halt_spec (hG : Errs G) (n : Nat) {x y z : V} {t : Tab} (h : IsTab x y z t) (p s : Int) :
    ∃ r, callV (cfg G) (sem (cfg G) (n + 8)) 17 [.agg [x, y, z], .int .i64 p, .int .i64 s] = M.ret r ∧ Ans t (inOk t p [1] ∧ (s = 0 ∨ s = 3)) (Tab.halt t p s) r := by
  refine callV_pureE rfl (by simp [h.closed, cI]) ?_
  rw [ferry_ready_Halt_eq]
  simp only [ferry_ready_Halt]
  (repeat' (first | (simp only [wp, extractV, exists_eq_left', if_true, if_false, ite_true, ite_false, reduceIte, Nat.reduceAdd, Nat.reduceLT, Nat.reduceLeDiff, Nat.reduceEqDiff, Run.slice, fillRows, List.replicate_succ, List.replicate_zero, List.set_cons_succ]) | (with_reducible refine Run.gC ?_ ?_ <;> intro hb <;> try simp only [hb]) | (with_reducible refine Run.gG ?_ ?_ <;> intro hb <;> try simp only [hb]) | (with_reducible refine Run.gQ ?_ ?_ <;> intro hb <;> try simp only [hb])))
  refine (in_spec hG n h p (w := .imm 1 (([1] : List Int).map intRow)) (ss := [1]) (Sls.imm _ _) (by decide) (Nat.zero_le _) ?_).mono fun v H1 hres => ?_
  · rw [List.mapM_cons, thawV_closed h.closed]
    rfl
  rcases hres with ⟨hok, hin, u, rfl, a, b, c, rfl, o1, f, ll⟩ | ⟨hok, rfl, rfl⟩ | ⟨hok, hin, rfl, rfl⟩
  case inr.inl =>
    (repeat' (first | (simp only [wp, extractV, exists_eq_left', if_true, if_false, ite_true, ite_false, reduceIte, Nat.reduceAdd, Nat.reduceLT, Nat.reduceLeDiff, Nat.reduceEqDiff, badV, eq_err, buildV, fill, tupV]) | (with_reducible refine Run.gC ?_ ?_ <;> intro hb <;> try simp only [hb]) | (with_reducible refine Run.gG ?_ ?_ <;> intro hb <;> try simp only [hb]) | (with_reducible refine Run.gQ ?_ ?_ <;> intro hb <;> try simp only [hb])))
    exact ⟨_, thaw_bad _ _, .inr (.inl ⟨hok, rfl⟩)⟩
  case inr.inr =>
    (repeat' (first | (simp only [wp, extractV, exists_eq_left', if_true, if_false, ite_true, ite_false, reduceIte, Nat.reduceAdd, Nat.reduceLT, Nat.reduceLeDiff, Nat.reduceEqDiff, badV, eq_err, buildV, fill, tupV]) | (with_reducible refine Run.gC ?_ ?_ <;> intro hb <;> try simp only [hb]) | (with_reducible refine Run.gG ?_ ?_ <;> intro hb <;> try simp only [hb]) | (with_reducible refine Run.gQ ?_ ?_ <;> intro hb <;> try simp only [hb])))
    exact ⟨_, thaw_bad _ _, .inr (.inr ⟨hok, fun g => hin g.1, rfl⟩)⟩
  have few := ((ROk_iff t).2 hok).few
  have e1 : H1.floor = 0 := f.floor
  have i1 := InB.start o1 f (Nat.zero_le _) ll h.wp
  have n1 : 3 ≤ H1.next := f.next
  have z1 : ¬ 1 = H1.next := by omega
  have b1 : H1.blk 1 = some ⟨3, [[.nils, .nils, .nils]]⟩ := (f.old 1 (by simp [Heap.add_next, Heap.empty_next]) id).trans rfl
  have hin' := hin
  obtain ⟨q, hq, hs⟩ := hin
  have hlt0 := at?_lt hq
  obtain ⟨k, rfl⟩ := Int.eq_ofNat_of_zero_le hlt0.1
  have hk : k < t.ps.length := by omega
  obtain ⟨a0, a1, a2, a3, a4, a5, a6, a7, a8, a9, a10, a11, a12, a13, a14, a15, hr, hrow⟩ := row16 (h.wp _ (List.getElem_mem hk))
  have hwk : Wp t.ps[k] := h.wp t.ps[k] (List.getElem_mem hk)
  have hs1 : q.state = 1 := by simpa using hs
  by_cases hnb : s = 0 ∨ s = 3
  · have hrow' : prRow (haltP s t.ps[k]) = [.int .u32 a0, .int .u32 a1, .int .u32 a2, .int .u32 a3, .int .u32 a4, .int .u32 a5, .int .u32 a6, .int .u32 a7, .int .u32 a8, .int .u32 a9, .int .u32 a10, .int .u32 a11, .int .u32 a12, .int .u32 a13, .int .u32 a14, .int .u32 a15,
        .int .u32 t.ps[k].pc, .int .i64 s, .int .i64 t.ps[k].prio, .int .i64 t.ps[k].wait, .int .i64 t.ps[k].obj] := by unfold prRow haltP; rw [hr]; rfl
    have cs : (s == 0) = true ∨ (s == 0) = false ∧ (s == 3) = true := by
      rcases hnb with rfl | rfl
      · exact .inl rfl
      · exact .inr ⟨rfl, rfl⟩
    rcases cs with s1 | ⟨s1, s2⟩
    · (repeat' (first | (simp only [wp, extractV, exists_eq_left', if_true, if_false, ite_true, ite_false, reduceIte, Nat.reduceAdd, Nat.reduceLT, Nat.reduceLeDiff, Nat.reduceEqDiff, e1, s1]) | (with_reducible refine Run.gC ?_ ?_ <;> intro hb <;> try simp only [hb]) | (with_reducible refine Run.gG ?_ ?_ <;> intro hb <;> try simp only [hb]) | (with_reducible refine Run.gQ ?_ ?_ <;> intro hb <;> try simp only [hb])))
      refine (i1.leave (n + 3) (by unfold big; omega) k).mono fun _ H2 ⟨i2, n2⟩ => ?_
      obtain ⟨xx, yy, zz, lx, B, q1, q2, q3, q4, q5, q6, q7, q8, q9, put⟩ := i2.proc (p := k) hk
      have q4' : B.rows[k]? = some (prRow t.ps[k]) := q4
      rw [hrow] at q4'
      have hgs : ∀ r, (B.rows.set k r)[k]? = some r := fun r => List.getElem?_set_self q5
      have z2 : ¬ H1.next = lx := fun e => q7 e.symm
      have z3 : ¬ 1 = lx := by have : 3 ≤ lx := q8; omega
      have e2 : H2.floor = 0 := i2.fl
      have i3 := put (haltP s) (show Wp (haltP s t.ps[k]) from hwk)
      have d1 : H2.blk 1 = some ⟨3, [[.nils, .nils, .nils]]⟩ := (i2.old 1 (by simp [Heap.add_next, Heap.empty_next])).trans rfl
      obtain ⟨x3, y3, z3', q10, o3, k3⟩ := i3.tab
      have e3 : x3 = xx ∧ y3 = yy ∧ z3' = zz := by
        rw [Heap.set_blk, if_neg z2, q1] at q10
        cases q10
        exact ⟨rfl, rfl, rfl⟩
      obtain ⟨rfl, rfl, rfl⟩ := e3
      (repeat' (first | (simp only [wp, extractV, exists_eq_left', if_true, if_false, ite_true, ite_false, reduceIte, Nat.reduceAdd, Nat.reduceLT, Nat.reduceLeDiff, Nat.reduceEqDiff, q1, q2, q3, q4', hgs, Heap.set_set, List.set_set, e2, z2, z3, d1, z1, tupV]) | (with_reducible refine Run.gC ?_ ?_ <;> intro hb <;> try simp only [hb]) | (with_reducible refine Run.gG ?_ ?_ <;> intro hb <;> try simp only [hb]) | (with_reducible refine Run.gQ ?_ ?_ <;> intro hb <;> try simp only [hb])))
      rw [← hrow']
      obtain ⟨a', b', c', s1, s2⟩ := o3.show1 (K' := (H2.set lx ⟨B.sz, B.rows.set k (prRow (haltP s t.ps[k]))⟩).set 1 ⟨3, [[x3, y3, z3']]⟩) i3.wp (TabOk.halt hok hq hs1 hnb) (fun k' b' hk' hb' => by
        have : 3 ≤ k' ∧ k' ≠ H1.next := k3 k' hk'
        rw [Heap.set_blk, if_neg (by omega)]
        exact hb') true
      exact ⟨_, thawV_tup (mapM2 s1 (thaw2_nili _ _)), .inl ⟨hok, ⟨hin', hnb⟩, _, _, _, rfl, s2⟩⟩
    · (repeat' (first | (simp only [wp, extractV, exists_eq_left', if_true, if_false, ite_true, ite_false, reduceIte, Nat.reduceAdd, Nat.reduceLT, Nat.reduceLeDiff, Nat.reduceEqDiff, e1, s1, s2]) | (with_reducible refine Run.gC ?_ ?_ <;> intro hb <;> try simp only [hb]) | (with_reducible refine Run.gG ?_ ?_ <;> intro hb <;> try simp only [hb]) | (with_reducible refine Run.gQ ?_ ?_ <;> intro hb <;> try simp only [hb])))
      refine (i1.leave (n + 3) (by unfold big; omega) k).mono fun _ H2 ⟨i2, n2⟩ => ?_
      obtain ⟨xx, yy, zz, lx, B, q1, q2, q3, q4, q5, q6, q7, q8, q9, put⟩ := i2.proc (p := k) hk
      have q4' : B.rows[k]? = some (prRow t.ps[k]) := q4
      rw [hrow] at q4'
      have hgs : ∀ r, (B.rows.set k r)[k]? = some r := fun r => List.getElem?_set_self q5
      have z2 : ¬ H1.next = lx := fun e => q7 e.symm
      have z3 : ¬ 1 = lx := by have : 3 ≤ lx := q8; omega
      have e2 : H2.floor = 0 := i2.fl
      have i3 := put (haltP s) (show Wp (haltP s t.ps[k]) from hwk)
      have d1 : H2.blk 1 = some ⟨3, [[.nils, .nils, .nils]]⟩ := (i2.old 1 (by simp [Heap.add_next, Heap.empty_next])).trans rfl
      obtain ⟨x3, y3, z3', q10, o3, k3⟩ := i3.tab
      have e3 : x3 = xx ∧ y3 = yy ∧ z3' = zz := by
        rw [Heap.set_blk, if_neg z2, q1] at q10
        cases q10
        exact ⟨rfl, rfl, rfl⟩
      obtain ⟨rfl, rfl, rfl⟩ := e3
      (repeat' (first | (simp only [wp, extractV, exists_eq_left', if_true, if_false, ite_true, ite_false, reduceIte, Nat.reduceAdd, Nat.reduceLT, Nat.reduceLeDiff, Nat.reduceEqDiff, q1, q2, q3, q4', hgs, Heap.set_set, List.set_set, e2, z2, z3, d1, z1, tupV]) | (with_reducible refine Run.gC ?_ ?_ <;> intro hb <;> try simp only [hb]) | (with_reducible refine Run.gG ?_ ?_ <;> intro hb <;> try simp only [hb]) | (with_reducible refine Run.gQ ?_ ?_ <;> intro hb <;> try simp only [hb])))
      rw [← hrow']
      obtain ⟨a', b', c', s1, s2⟩ := o3.show1 (K' := (H2.set lx ⟨B.sz, B.rows.set k (prRow (haltP s t.ps[k]))⟩).set 1 ⟨3, [[x3, y3, z3']]⟩) i3.wp (TabOk.halt hok hq hs1 hnb) (fun k' b' hk' hb' => by
        have : 3 ≤ k' ∧ k' ≠ H1.next := k3 k' hk'
        rw [Heap.set_blk, if_neg (by omega)]
        exact hb') true
      exact ⟨_, thawV_tup (mapM2 s1 (thaw2_nili _ _)), .inl ⟨hok, ⟨hin', hnb⟩, _, _, _, rfl, s2⟩⟩
  · have s1 : (s == 0) = false := by simp; omega
    have s2 : (s == 3) = false := by simp; omega
    (repeat' (first | (simp only [wp, extractV, exists_eq_left', if_true, if_false, ite_true, ite_false, reduceIte, Nat.reduceAdd, Nat.reduceLT, Nat.reduceLeDiff, Nat.reduceEqDiff, e1, b1, z1, s1, s2, glob_at hG.arg, buildV, fill, apartV, tupV]) | (with_reducible refine Run.gC ?_ ?_ <;> intro hb <;> try simp only [hb]) | (with_reducible refine Run.gG ?_ ?_ <;> intro hb <;> try simp only [hb]) | (with_reducible refine Run.gQ ?_ ?_ <;> intro hb <;> try simp only [hb])))
    exact ⟨_, thaw_bad _ _, .inr (.inr ⟨hok, fun g => hnb g.2, rfl⟩)⟩

set_option maxRecDepth 20000 in
theorem rank_spec (hG : Errs G) (n : Nat) {x y z : V} {t : Tab} (h : IsTab x y z t) (p pr : Int) :
    ∃ r, callV (cfg G) (sem (cfg G) (n + 8)) 19 [.agg [x, y, z], .int .i64 p, .int .i64 pr] = M.ret r ∧ Ans t (inOk t p [0, 1, 2, 3] ∧ (0 ≤ pr ∧ pr ≤ 255)) (Tab.rank t p pr) r := by
  refine callV_pureE rfl (by simp [h.closed, cI]) ?_
  rw [ferry_ready_Rank_eq]
  simp only [ferry_ready_Rank]
  (repeat' (first | (simp only [wp, extractV, exists_eq_left', if_true, if_false, ite_true, ite_false, reduceIte, Nat.reduceAdd, Nat.reduceLT, Nat.reduceLeDiff, Nat.reduceEqDiff, Run.slice, fillRows, List.replicate_succ, List.replicate_zero, List.set_cons_succ]) | (with_reducible refine Run.gC ?_ ?_ <;> intro hb <;> try simp only [hb]) | (with_reducible refine Run.gG ?_ ?_ <;> intro hb <;> try simp only [hb]) | (with_reducible refine Run.gQ ?_ ?_ <;> intro hb <;> try simp only [hb])))
  refine (in_spec hG n h p (w := .imm 1 (([0, 1, 2, 3] : List Int).map intRow)) (ss := [0, 1, 2, 3]) (Sls.imm _ _) (by decide) (Nat.zero_le _) ?_).mono fun v H1 hres => ?_
  · rw [List.mapM_cons, thawV_closed h.closed]
    rfl
  rcases hres with ⟨hok, hin, u, rfl, a, b, c, rfl, o1, f, ll⟩ | ⟨hok, rfl, rfl⟩ | ⟨hok, hin, rfl, rfl⟩
  case inr.inl =>
    (repeat' (first | (simp only [wp, extractV, exists_eq_left', if_true, if_false, ite_true, ite_false, reduceIte, Nat.reduceAdd, Nat.reduceLT, Nat.reduceLeDiff, Nat.reduceEqDiff, badV, eq_err, buildV, fill, tupV]) | (with_reducible refine Run.gC ?_ ?_ <;> intro hb <;> try simp only [hb]) | (with_reducible refine Run.gG ?_ ?_ <;> intro hb <;> try simp only [hb]) | (with_reducible refine Run.gQ ?_ ?_ <;> intro hb <;> try simp only [hb])))
    exact ⟨_, thaw_bad _ _, .inr (.inl ⟨hok, rfl⟩)⟩
  case inr.inr =>
    (repeat' (first | (simp only [wp, extractV, exists_eq_left', if_true, if_false, ite_true, ite_false, reduceIte, Nat.reduceAdd, Nat.reduceLT, Nat.reduceLeDiff, Nat.reduceEqDiff, badV, eq_err, buildV, fill, tupV]) | (with_reducible refine Run.gC ?_ ?_ <;> intro hb <;> try simp only [hb]) | (with_reducible refine Run.gG ?_ ?_ <;> intro hb <;> try simp only [hb]) | (with_reducible refine Run.gQ ?_ ?_ <;> intro hb <;> try simp only [hb])))
    exact ⟨_, thaw_bad _ _, .inr (.inr ⟨hok, fun g => hin g.1, rfl⟩)⟩
  have few := ((ROk_iff t).2 hok).few
  have e1 : H1.floor = 0 := f.floor
  have i1 := InB.start o1 f (Nat.zero_le _) ll h.wp
  have n1 : 3 ≤ H1.next := f.next
  have z1 : ¬ 1 = H1.next := by omega
  have b1 : H1.blk 1 = some ⟨3, [[.nils, .nils, .nils]]⟩ := (f.old 1 (by simp [Heap.add_next, Heap.empty_next]) id).trans rfl
  have hin' := hin
  obtain ⟨q, hq, hs⟩ := hin
  have hlt0 := at?_lt hq
  obtain ⟨k, rfl⟩ := Int.eq_ofNat_of_zero_le hlt0.1
  have hk : k < t.ps.length := by omega
  obtain ⟨a0, a1, a2, a3, a4, a5, a6, a7, a8, a9, a10, a11, a12, a13, a14, a15, hr, hrow⟩ := row16 (h.wp _ (List.getElem_mem hk))
  have hwk : Wp t.ps[k] := h.wp t.ps[k] (List.getElem_mem hk)
  by_cases hnb : 0 ≤ pr ∧ pr ≤ 255
  · have hrow' : prRow (rankP pr t.ps[k]) = [.int .u32 a0, .int .u32 a1, .int .u32 a2, .int .u32 a3, .int .u32 a4, .int .u32 a5, .int .u32 a6, .int .u32 a7, .int .u32 a8, .int .u32 a9, .int .u32 a10, .int .u32 a11, .int .u32 a12, .int .u32 a13, .int .u32 a14, .int .u32 a15,
        .int .u32 t.ps[k].pc, .int .i64 t.ps[k].state, .int .i64 pr, .int .i64 t.ps[k].wait, .int .i64 t.ps[k].obj] := by unfold prRow rankP; rw [hr]; rfl
    have c1 : decide (pr < 0) = false := decide_eq_false (by omega)
    have c2 : decide (255 < pr) = false := decide_eq_false (by omega)
    obtain ⟨xx, yy, zz, lx, B, q1, q2, q3, q4, q5, q6, q7, q8, q9, put⟩ := i1.proc (p := k) hk
    have q4' : B.rows[k]? = some (prRow t.ps[k]) := q4
    rw [hrow] at q4'
    have hgs : ∀ r, (B.rows.set k r)[k]? = some r := fun r => List.getElem?_set_self q5
    have z2 : ¬ H1.next = lx := fun e => q7 e.symm
    have z3 : ¬ 1 = lx := by have : 3 ≤ lx := q8; omega
    have e2 : ((H1.add ⟨3, [[.nils, .nils, .nils]]⟩).set H1.next ⟨3, [[a, b, c]]⟩).floor = 0 := i1.fl
    have i3 := put (rankP pr) (show Wp (rankP pr t.ps[k]) from hwk)
    have d1 : ((H1.add ⟨3, [[.nils, .nils, .nils]]⟩).set H1.next ⟨3, [[a, b, c]]⟩).blk 1 = some ⟨3, [[.nils, .nils, .nils]]⟩ := (i1.old 1 (by simp [Heap.add_next, Heap.empty_next])).trans rfl
    obtain ⟨x3, y3, z3', q10, o3, k3⟩ := i3.tab
    have e3 : x3 = xx ∧ y3 = yy ∧ z3' = zz := by
      rw [Heap.set_blk, if_neg z2, q1] at q10
      cases q10
      exact ⟨rfl, rfl, rfl⟩
    obtain ⟨rfl, rfl, rfl⟩ := e3
    rw [Heap.set_blk, if_pos rfl] at q1
    cases q1
    rw [Heap.set_blk, if_neg q7, Heap.add_blk, if_neg q7] at q3
    (repeat' (first | (simp only [wp, extractV, exists_eq_left', if_true, if_false, ite_true, ite_false, reduceIte, Nat.reduceAdd, Nat.reduceLT, Nat.reduceLeDiff, Nat.reduceEqDiff, e1, c1, c2, q2, q3, q4', hgs, q7, z2, z3, b1, z1, tupV]) | (with_reducible refine Run.gC ?_ ?_ <;> intro hb <;> try simp only [hb]) | (with_reducible refine Run.gG ?_ ?_ <;> intro hb <;> try simp only [hb]) | (with_reducible refine Run.gQ ?_ ?_ <;> intro hb <;> try simp only [hb])))
    rw [← hrow']
    obtain ⟨a', b', c', s1, s2⟩ := o3.show1 (K' := (((H1.add ⟨3, [[.nils, .nils, .nils]]⟩).set H1.next ⟨3, [[a, b, c]]⟩).set lx ⟨B.sz, B.rows.set k (prRow (rankP pr t.ps[k]))⟩).set 1 ⟨3, [[a, b, c]]⟩) i3.wp (TabOk.rank hok hq hnb) (fun k' b' hk' hb' => by
      have : 3 ≤ k' ∧ k' ≠ H1.next := k3 k' hk'
      rw [Heap.set_blk, if_neg (by omega)]
      exact hb') true
    exact ⟨_, thawV_tup (mapM2 s1 (thaw2_nili _ _)), .inl ⟨hok, ⟨hin', hnb⟩, _, _, _, rfl, s2⟩⟩
  · by_cases c1 : pr < 0
    · (repeat' (first | (simp only [wp, extractV, exists_eq_left', if_true, if_false, ite_true, ite_false, reduceIte, Nat.reduceAdd, Nat.reduceLT, Nat.reduceLeDiff, Nat.reduceEqDiff, e1, b1, z1, decide_eq_true c1, glob_at hG.arg, buildV, fill, apartV, tupV]) | (with_reducible refine Run.gC ?_ ?_ <;> intro hb <;> try simp only [hb]) | (with_reducible refine Run.gG ?_ ?_ <;> intro hb <;> try simp only [hb]) | (with_reducible refine Run.gQ ?_ ?_ <;> intro hb <;> try simp only [hb])))
      exact ⟨_, thaw_bad _ _, .inr (.inr ⟨hok, fun g => hnb g.2, rfl⟩)⟩
    · (repeat' (first | (simp only [wp, extractV, exists_eq_left', if_true, if_false, ite_true, ite_false, reduceIte, Nat.reduceAdd, Nat.reduceLT, Nat.reduceLeDiff, Nat.reduceEqDiff, e1, b1, z1, decide_eq_false c1, decide_eq_true (show 255 < pr by omega), glob_at hG.arg, buildV, fill, apartV, tupV]) | (with_reducible refine Run.gC ?_ ?_ <;> intro hb <;> try simp only [hb]) | (with_reducible refine Run.gG ?_ ?_ <;> intro hb <;> try simp only [hb]) | (with_reducible refine Run.gQ ?_ ?_ <;> intro hb <;> try simp only [hb])))
      exact ⟨_, thaw_bad _ _, .inr (.inr ⟨hok, fun g => hnb g.2, rfl⟩)⟩

set_option maxRecDepth 20000 in
theorem start_spec (hG : Errs G) (n : Nat) {x y z : V} {t : Tab} (h : IsTab x y z t) (p e pr : Int) :
    ∃ r, callV (cfg G) (sem (cfg G) (n + 8)) 18 [.agg [x, y, z], .int .i64 p, .int .u32 e, .int .i64 pr] = M.ret r ∧ Ans t (inOk t p [0, 3] ∧ (0 ≤ pr ∧ pr ≤ 255)) (Tab.start t p e pr) r := by
  refine callV_pureE rfl (by simp [h.closed, cI]) ?_
  rw [ferry_ready_Start_eq]
  simp only [ferry_ready_Start]
  (repeat' (first | (simp only [wp, extractV, exists_eq_left', if_true, if_false, ite_true, ite_false, reduceIte, Nat.reduceAdd, Nat.reduceLT, Nat.reduceLeDiff, Nat.reduceEqDiff, Run.slice, fillRows, List.replicate_succ, List.replicate_zero, List.set_cons_succ]) | (with_reducible refine Run.gC ?_ ?_ <;> intro hb <;> try simp only [hb]) | (with_reducible refine Run.gG ?_ ?_ <;> intro hb <;> try simp only [hb]) | (with_reducible refine Run.gQ ?_ ?_ <;> intro hb <;> try simp only [hb])))
  refine (in_spec hG n h p (w := .imm 1 (([0, 3] : List Int).map intRow)) (ss := [0, 3]) (Sls.imm _ _) (by decide) (Nat.zero_le _) ?_).mono fun v H1 hres => ?_
  · rw [List.mapM_cons, thawV_closed h.closed]
    rfl
  rcases hres with ⟨hok, hin, u, rfl, a, b, c, rfl, o1, f, ll⟩ | ⟨hok, rfl, rfl⟩ | ⟨hok, hin, rfl, rfl⟩
  case inr.inl =>
    (repeat' (first | (simp only [wp, extractV, exists_eq_left', if_true, if_false, ite_true, ite_false, reduceIte, Nat.reduceAdd, Nat.reduceLT, Nat.reduceLeDiff, Nat.reduceEqDiff, badV, eq_err, buildV, fill, tupV]) | (with_reducible refine Run.gC ?_ ?_ <;> intro hb <;> try simp only [hb]) | (with_reducible refine Run.gG ?_ ?_ <;> intro hb <;> try simp only [hb]) | (with_reducible refine Run.gQ ?_ ?_ <;> intro hb <;> try simp only [hb])))
    exact ⟨_, thaw_bad _ _, .inr (.inl ⟨hok, rfl⟩)⟩
  case inr.inr =>
    (repeat' (first | (simp only [wp, extractV, exists_eq_left', if_true, if_false, ite_true, ite_false, reduceIte, Nat.reduceAdd, Nat.reduceLT, Nat.reduceLeDiff, Nat.reduceEqDiff, badV, eq_err, buildV, fill, tupV]) | (with_reducible refine Run.gC ?_ ?_ <;> intro hb <;> try simp only [hb]) | (with_reducible refine Run.gG ?_ ?_ <;> intro hb <;> try simp only [hb]) | (with_reducible refine Run.gQ ?_ ?_ <;> intro hb <;> try simp only [hb])))
    exact ⟨_, thaw_bad _ _, .inr (.inr ⟨hok, fun g => hin g.1, rfl⟩)⟩
  have few := ((ROk_iff t).2 hok).few
  have e1 : H1.floor = 0 := f.floor
  have i1 := InB.start o1 f (Nat.zero_le _) ll h.wp
  have n1 : 3 ≤ H1.next := f.next
  have z1 : ¬ 1 = H1.next := by omega
  have b1 : H1.blk 1 = some ⟨3, [[.nils, .nils, .nils]]⟩ := (f.old 1 (by simp [Heap.add_next, Heap.empty_next]) id).trans rfl
  have hin' := hin
  obtain ⟨q, hq, hs⟩ := hin
  have hlt0 := at?_lt hq
  obtain ⟨k, rfl⟩ := Int.eq_ofNat_of_zero_le hlt0.1
  have hk : k < t.ps.length := by omega
  obtain ⟨a0, a1, a2, a3, a4, a5, a6, a7, a8, a9, a10, a11, a12, a13, a14, a15, hr, hrow⟩ := row16 (h.wp _ (List.getElem_mem hk))
  have hwk : Wp t.ps[k] := h.wp t.ps[k] (List.getElem_mem hk)
  have hs1 : q.state = 0 ∨ q.state = 3 := by simpa using hs
  by_cases hnb : 0 ≤ pr ∧ pr ≤ 255
  · have hrow' : prRow (startP e pr) = [.int .u32 0, .int .u32 0, .int .u32 0, .int .u32 0, .int .u32 0, .int .u32 0, .int .u32 0, .int .u32 0, .int .u32 0, .int .u32 0, .int .u32 0, .int .u32 0, .int .u32 0, .int .u32 0, .int .u32 0, .int .u32 0,
        .int .u32 e, .int .i64 1, .int .i64 pr, .int .i64 0, .int .i64 0] := rfl
    have c1 : decide (pr < 0) = false := decide_eq_false (by omega)
    have c2 : decide (255 < pr) = false := decide_eq_false (by omega)
    obtain ⟨xx, yy, zz, lx, B, q1, q2, q3, q4, q5, q6, q7, q8, q9, put⟩ := i1.proc (p := k) hk
    have q4' : B.rows[k]? = some (prRow t.ps[k]) := q4
    rw [hrow] at q4'
    have hgs : ∀ r, (B.rows.set k r)[k]? = some r := fun r => List.getElem?_set_self q5
    have z2 : ¬ H1.next = lx := fun e => q7 e.symm
    have z3 : ¬ 1 = lx := by have : 3 ≤ lx := q8; omega
    have e2 : ((H1.add ⟨3, [[.nils, .nils, .nils]]⟩).set H1.next ⟨3, [[a, b, c]]⟩).floor = 0 := i1.fl
    have i3 := put ((fun _ => startP e pr)) (show Wp ((fun _ => startP e pr) t.ps[k]) from rfl)
    have d1 : ((H1.add ⟨3, [[.nils, .nils, .nils]]⟩).set H1.next ⟨3, [[a, b, c]]⟩).blk 1 = some ⟨3, [[.nils, .nils, .nils]]⟩ := (i1.old 1 (by simp [Heap.add_next, Heap.empty_next])).trans rfl
    rw [Heap.set_blk, if_pos rfl] at q1
    cases q1
    rw [Heap.set_blk, if_neg q7, Heap.add_blk, if_neg q7] at q3
    obtain ⟨x3, y3, z3', q10, ra⟩ := i3.app (k : Int) (by have := few; show t.q.length ≤ 8; omega)
    rw [Heap.set_blk, if_neg z2, Heap.set_blk, if_pos rfl] at q10
    cases q10
    (repeat' (first | (simp only [wp, extractV, exists_eq_left', if_true, if_false, ite_true, ite_false, reduceIte, Nat.reduceAdd, Nat.reduceLT, Nat.reduceLeDiff, Nat.reduceEqDiff, e1, c1, c2, q2, q3, q4', hgs, q7, z2, z3, b1, z1, buildV, fill, putRow]) | (with_reducible refine Run.gC ?_ ?_ <;> intro hb <;> try simp only [hb]) | (with_reducible refine Run.gG ?_ ?_ <;> intro hb <;> try simp only [hb]) | (with_reducible refine Run.gQ ?_ ?_ <;> intro hb <;> try simp only [hb])))
    rw [← hrow']
    refine (Run.slice (n := 0)).2 ⟨[intRow (k : Int)], rfl, ?_⟩
    refine ra.mono fun y4 H4 ⟨w1, w2, w3, w4, i4⟩ => ?_
    have f4 : H4.floor = 0 := w3.trans e1
    have d4 : H4.blk 1 = some ⟨3, [[.nils, .nils, .nils]]⟩ := by
      have := i4.old 1 (by simp [Heap.add_next, Heap.empty_next])
      rw [Heap.set_blk, if_neg z1] at this
      exact this.trans rfl
    (repeat' (first | (simp only [wp, extractV, exists_eq_left', if_true, if_false, ite_true, ite_false, reduceIte, Nat.reduceAdd, Nat.reduceLT, Nat.reduceLeDiff, Nat.reduceEqDiff, w1, w2, f4, d4, z1, tupV]) | (with_reducible refine Run.gC ?_ ?_ <;> intro hb <;> try simp only [hb]) | (with_reducible refine Run.gG ?_ ?_ <;> intro hb <;> try simp only [hb]) | (with_reducible refine Run.gQ ?_ ?_ <;> intro hb <;> try simp only [hb])))
    obtain ⟨x5, y5, z5, q11, o5, k5⟩ := i4.tab
    rw [Heap.set_blk, if_pos rfl] at q11
    cases q11
    obtain ⟨a', b', c', s1, s2⟩ := o5.show1 (K' := (H4.set H1.next ⟨3, [[a, y4, c]]⟩).set 1 ⟨3, [[a, y4, c]]⟩) i4.wp (TabOk.start hok hq hs1 hnb) (fun k' b' hk' hb' => by
      have : 3 ≤ k' ∧ k' ≠ H1.next := k5 k' hk'
      rw [Heap.set_blk, if_neg (by omega)]
      exact hb') true
    exact ⟨_, thawV_tup (mapM2 s1 (thaw2_nili _ _)), .inl ⟨hok, ⟨hin', hnb⟩, _, _, _, rfl, s2⟩⟩
  · by_cases c1 : pr < 0
    · (repeat' (first | (simp only [wp, extractV, exists_eq_left', if_true, if_false, ite_true, ite_false, reduceIte, Nat.reduceAdd, Nat.reduceLT, Nat.reduceLeDiff, Nat.reduceEqDiff, e1, b1, z1, decide_eq_true c1, glob_at hG.arg, buildV, fill, apartV, tupV]) | (with_reducible refine Run.gC ?_ ?_ <;> intro hb <;> try simp only [hb]) | (with_reducible refine Run.gG ?_ ?_ <;> intro hb <;> try simp only [hb]) | (with_reducible refine Run.gQ ?_ ?_ <;> intro hb <;> try simp only [hb])))
      exact ⟨_, thaw_bad _ _, .inr (.inr ⟨hok, fun g => hnb g.2, rfl⟩)⟩
    · (repeat' (first | (simp only [wp, extractV, exists_eq_left', if_true, if_false, ite_true, ite_false, reduceIte, Nat.reduceAdd, Nat.reduceLT, Nat.reduceLeDiff, Nat.reduceEqDiff, e1, b1, z1, decide_eq_false c1, decide_eq_true (show 255 < pr by omega), glob_at hG.arg, buildV, fill, apartV, tupV]) | (with_reducible refine Run.gC ?_ ?_ <;> intro hb <;> try simp only [hb]) | (with_reducible refine Run.gG ?_ ?_ <;> intro hb <;> try simp only [hb]) | (with_reducible refine Run.gQ ?_ ?_ <;> intro hb <;> try simp only [hb])))
      exact ⟨_, thaw_bad _ _, .inr (.inr ⟨hok, fun g => hnb g.2, rfl⟩)⟩
end Go.Fv.Tr
