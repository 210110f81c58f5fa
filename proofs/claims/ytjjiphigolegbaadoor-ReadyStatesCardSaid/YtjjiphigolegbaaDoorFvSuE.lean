/-
  The law ReadyStates. By an AI agent; no person has read it.
-/
import Derived.Test.YtjjiphigolegbaaDoorFvSuD
import Derived.Test.YtjjiphigolegbaaDoorFvEv
import Derived.RowKitTokens
set_option linter.unusedVariables false
set_option linter.unusedSimpArgs false
set_option linter.unusedSectionVars false
/-! The law ReadyStates. -/
namespace Go.Fv.Tr
open Go Go.Fv Go.Fv.Pl Go.Proofs
set_option linter.unusedSimpArgs false
set_option linter.unusedVariables false

def GS : Nat → Option (List V) := fun g => if g ∈ ([0, 2, 1] : List Nat) then some [errV g] else none
set_option maxRecDepth 100000 in
theorem awakeS : playsTrue (cfg GS) 50 10 15 [] = true := by kernel_rfl
theorem awake_eq : callV (cfg GS) (sem (cfg GS) 10) 15 [] = M.ret (.bool true) :=
  callV_pure0 rfl rfl rfl (by
    obtain ⟨H', h⟩ := plays_true awakeS
    exact ⟨_, H', h, rfl⟩)

/-- The law's boxes: the state, the table, two tables of the document's. -/
structure Bs (l r1 r2 r3 : List V) (H : Heap) : Prop where
  fl : H.floor = 0
  n : 4 ≤ H.next
  b0 : H.blk 0 = some ⟨10, [l]⟩
  b1 : H.blk 1 = some ⟨3, [r1]⟩
  b2 : H.blk 2 = some ⟨3, [r2]⟩
  b3 : H.blk 3 = some ⟨3, [r3]⟩
theorem Bs.keep {l r1 r2 r3 : List V} {H H' : Heap} (h : Bs l r1 r2 r3 H) (f : Frame H H' (fun _ => False)) : Bs l r1 r2 r3 H' := by
  have := h.n
  exact ⟨f.floor.trans h.fl, Nat.le_trans h.n f.next, (f.old _ (by omega) id).trans h.b0, (f.old _ (by omega) id).trans h.b1, (f.old _ (by omega) id).trans h.b2, (f.old _ (by omega) id).trans h.b3⟩
theorem Bs.put2 {l r1 r2 r3 : List V} {H : Heap} (h : Bs l r1 r2 r3 H) (r : List V) : Bs l r1 r r3 (H.set 2 ⟨3, [r]⟩) :=
  ⟨h.fl, h.n, by rw [Heap.set_blk, if_neg (by omega)]; exact h.b0, by rw [Heap.set_blk, if_neg (by omega)]; exact h.b1, by rw [Heap.set_blk, if_pos rfl], by rw [Heap.set_blk, if_neg (by omega)]; exact h.b3⟩
theorem Bs.put3 {l r1 r2 r3 : List V} {H : Heap} (h : Bs l r1 r2 r3 H) (r : List V) : Bs l r1 r2 r (H.set 3 ⟨3, [r]⟩) :=
  ⟨h.fl, h.n, by rw [Heap.set_blk, if_neg (by omega)]; exact h.b0, by rw [Heap.set_blk, if_neg (by omega)]; exact h.b1, by rw [Heap.set_blk, if_neg (by omega)]; exact h.b2, by rw [Heap.set_blk, if_pos rfl]⟩

theorem eq_pa {p : Pa} {c : Bool} (h : p.data.length = 64) : eqV (.agg [.int, .bool, .int, .int, .int, .int, .int, .int, .int, .int, .int, .int, .int, .int, .int, .int, .int, .int, .int, .int, .int, .int, .int, .int, .int, .int, .int, .int, .int, .int, .int, .int, .int, .int, .int, .int, .int, .int, .int, .int, .int, .int, .int, .int, .int, .int, .int, .int, .int, .int, .int, .int, .int, .int, .int, .int, .int, .int, .int, .int, .int, .int, .int, .int, .int, .int]) c (.agg (paR p)) (.agg (paR p)) = some true := by
  show eqCs _ (paR p) (paR p) = _
  have e : ([.int, .bool, .int, .int, .int, .int, .int, .int, .int, .int, .int, .int, .int, .int, .int, .int, .int, .int, .int, .int, .int, .int, .int, .int, .int, .int, .int, .int, .int, .int, .int, .int, .int, .int, .int, .int, .int, .int, .int, .int, .int, .int, .int, .int, .int, .int, .int, .int, .int, .int, .int, .int, .int, .int, .int, .int, .int, .int, .int, .int, .int, .int, .int, .int, .int, .int] : List Sc) = .int :: .bool :: (List.replicate p.data.length .int ++ []) := by rw [h]; rfl
  rw [e]
  unfold paR
  simp only [eqCs, eqC, if_true, Option.bind_some]
  have := eqCs_ints .u8 p.data p.data [] [] [] rfl
  simp only [List.append_nil] at this ⊢
  rw [this]
  simp [eqCs]

set_option maxRecDepth 20000 in
theorem states_run {l : List V} {s : Sd} {x y z a b c d x0 y0 z0 : V} {pr : List (List V)} {t : Tab} (h : ∀ H, RdSt H (fun _ => False) l s x y z a b c d pr) (hs : SB s) (h2 : ∀ H, RdTab H (fun _ => False) x0 y0 z0 t) (ht : TB t) :
    Run (sem (cfg GS) 11 5 [.agg l, .agg [x0, y0, z0]]) Heap.empty fun v _ => v = .bool true := by
  rw [ferry_ferrylaw09_ReadyStates_eq]
  simp only [ferry_ferrylaw09_ReadyStates]
  have el := (h Heap.empty).eq
  have l10 : l.length = 10 := by rw [el]; rfl
  have t10 : l.take 10 = l := List.take_of_length_le (by omega)
  (repeat' (first | (simp only [wp, extractV, exists_eq_left', if_true, if_false, ite_true, ite_false, reduceIte, Nat.reduceAdd, Nat.reduceLT, Nat.reduceLeDiff, Nat.reduceEqDiff, awake_eq, l10]) | (with_reducible refine Run.gC ?_ ?_ <;> intro hb <;> try simp only [hb]) | (with_reducible refine Run.gG ?_ ?_ <;> intro hb <;> try simp only [hb]) | (with_reducible refine Run.gQ ?_ ?_ <;> intro hb <;> try simp only [hb])))
  have B0 : Bs l [x0, y0, z0] [.nils, .nils, .nils] [.nils, .nils, .nils] ((((Heap.empty.add ⟨10, [l]⟩).add ⟨3, [[x0, y0, z0]]⟩).add ⟨3, [[.nils, .nils, .nils]]⟩).add ⟨3, [[.nils, .nils, .nils]]⟩) :=
    ⟨rfl, Nat.le_refl _, rfl, rfl, rfl, rfl⟩
  (repeat' (first | (simp only [wp, extractV, exists_eq_left', if_true, if_false, ite_true, ite_false, reduceIte, Nat.reduceAdd, Nat.reduceLT, Nat.reduceLeDiff, Nat.reduceEqDiff, t10, l10]) | (with_reducible refine Run.gC ?_ ?_ <;> intro hb <;> try simp only [hb]) | (with_reducible refine Run.gG ?_ ?_ <;> intro hb <;> try simp only [hb]) | (with_reducible refine Run.gQ ?_ ?_ <;> intro hb <;> try simp only [hb])))
  refine (refOf_run 9 (h _) (by exact Nat.zero_le _)).mono fun v H1 ⟨f1, e1⟩ => ?_
  subst e1
  have B1 := B0.keep f1
  (repeat' (first | (simp only [wp, extractV, exists_eq_left', if_true, if_false, ite_true, ite_false, reduceIte, Nat.reduceAdd, Nat.reduceLT, Nat.reduceLeDiff, Nat.reduceEqDiff, B1.fl, B1.b0, B1.b2, (h H1).t.rp.cells, (h H1).t.rq.cells, (h H1).t.rs.cells, l10, t10]) | (with_reducible refine Run.gC ?_ ?_ <;> intro hb <;> try simp only [hb]) | (with_reducible refine Run.gG ?_ ?_ <;> intro hb <;> try simp only [hb]) | (with_reducible refine Run.gQ ?_ ?_ <;> intro hb <;> try simp only [hb])))
  have B2 := B1.put2 [x, y, z]
  refine (of_run 8 (h _) hs (by rw [B2.fl]; exact Nat.zero_le _)).mono fun v H2 ⟨f2, x1, y1, z1, e2, g2⟩ => ?_
  subst e2
  have B3 := B2.keep f2
  have q1 : ¬ (0 = H2.next) := by have := B3.n; omega
  have q2 : ¬ (1 = H2.next) := by have := B3.n; omega
  have f3 : Frame H2 ((H2.add ⟨3, [[.nils, .nils, .nils]]⟩).set H2.next ⟨3, [[x1, y1, z1]]⟩) (fun _ => False) := (Frame.add _ _).st (Nat.le_refl _) _
  have B4 := B3.keep f3
  have bo : ((H2.add ⟨3, [[.nils, .nils, .nils]]⟩).set H2.next ⟨3, [[x1, y1, z1]]⟩).blk H2.next = some ⟨3, [[x1, y1, z1]]⟩ := by rw [Heap.set_blk, if_pos rfl]
  have no : H2.next < ((H2.add ⟨3, [[.nils, .nils, .nils]]⟩).set H2.next ⟨3, [[x1, y1, z1]]⟩).next := Nat.lt_succ_self _
  have g4 := (g2.imp (q' := fun m => 4 ≤ m) (fun m _ e => Nat.le_trans B2.n e)).frame f3 (fun _ _ => id)
  have e4 : ((H2.add ⟨3, [[.nils, .nils, .nils]]⟩).set H2.next ⟨3, [[x1, y1, z1]]⟩).next = H2.next + 1 := rfl
  (repeat' (first | (simp only [wp, extractV, exists_eq_left', if_true, if_false, ite_true, ite_false, reduceIte, Nat.reduceAdd, Nat.reduceLT, Nat.reduceLeDiff, Nat.reduceEqDiff, B3.fl, B3.b0, B3.b1, q1, q2, g2.rp.cells, g2.rq.cells, g2.rs.cells, l10, t10]) | (with_reducible refine Run.gC ?_ ?_ <;> intro hb <;> try simp only [hb]) | (with_reducible refine Run.gG ?_ ?_ <;> intro hb <;> try simp only [hb]) | (with_reducible refine Run.gQ ?_ ?_ <;> intro hb <;> try simp only [hb])))
  generalize (H2.add ⟨3, [[.nils, .nils, .nils]]⟩).set H2.next ⟨3, [[x1, y1, z1]]⟩ = H4 at *
  generalize hNo : H2.next = No at *
  refine Run.qAll (P := fun y K' => y = .agg [x0, y0, z0]) (fun l hl => by simp [visB, Heap.add_next, Heap.set_next] at hl ⊢; omega) (fun K k1 k2 k3 => (to_run 9 (h2 K) k2).mono fun y K' ⟨e, f⟩ => ⟨f, e⟩) fun y K' H5 e f5 _ _ => ?_
  subst e
  have B5 := B4.keep f5
  have n5 := f5.next
  (repeat' (first | (simp only [wp, extractV, exists_eq_left', if_true, if_false, ite_true, ite_false, reduceIte, Nat.reduceAdd, Nat.reduceLT, Nat.reduceLeDiff, Nat.reduceEqDiff]) | (with_reducible refine Run.gC ?_ ?_ <;> intro hb <;> try simp only [hb]) | (with_reducible refine Run.gG ?_ ?_ <;> intro hb <;> try simp only [hb]) | (with_reducible refine Run.gQ ?_ ?_ <;> intro hb <;> try simp only [hb])))
  refine Run.tAll (P := fun v H' => ∃ l' x' y' z' a' b' c' d' pr', v = .agg l' ∧ RdSt H' (fun m => H5.next ≤ m) l' { s with t := t } x' y' z' a' b' c' d' pr') (fun l hl => by simp [visB, Heap.add_next, Heap.set_next] at hl ⊢; omega) (fun K k1 k2 k3 => ?_) fun v K2 H6 e f6 e61 e62 => ?_
  · refine (into_run 7 (h K) hs (h2 K) ht (k2.trans B5.fl)).mono fun v K' ⟨f, l', x', y', z', a', b', c', d', pr', e, r⟩ => ⟨f, l', x', y', z', a', b', c', d', pr', e, r.imp fun m _ hm => by rw [k1] at hm; exact hm⟩
  obtain ⟨lu, ux, uy, uz, ua, ub, uc, ud, upr, rfl, ru⟩ := e
  have ru := ru.same e61 e62
  have B6 := B5.keep f6
  have bo := (f6.old _ (by omega) id).trans ((f5.old _ no id).trans bo)
  have g6 := (g4.frame f5 (fun _ _ => id)).frame f6 (fun _ _ => id)
  have n6 := f6.next
  have lu10 : lu.length = 10 := by rw [ru.eq]; rfl
  have tu10 : lu.take 10 = lu := List.take_of_length_le (by omega)
  have f7 : Frame H6 ((H6.add ⟨10, [[.int .i64 0, .int .i64 0, .int .i64 0, .nils, .nils, .nils, .nils, .nils, .nils, .nils]]⟩).set H6.next ⟨10, [lu]⟩) (fun _ => False) := (Frame.add _ _).st (Nat.le_refl _) _
  have B7 := B6.keep f7
  have o7 : ¬ (No = H6.next) := by omega
  have bu : ((H6.add ⟨10, [[.int .i64 0, .int .i64 0, .int .i64 0, .nils, .nils, .nils, .nils, .nils, .nils, .nils]]⟩).set H6.next ⟨10, [lu]⟩).blk H6.next = some ⟨10, [lu]⟩ := by rw [Heap.set_blk, if_pos rfl]
  have bo7 := (f7.old _ (by omega) id).trans bo
  have g7 := g6.frame f7 (fun _ _ => id)
  have u7 := ru.frame f7 (fun _ _ => id)
  have e7 : ((H6.add ⟨10, [[.int .i64 0, .int .i64 0, .int .i64 0, .nils, .nils, .nils, .nils, .nils, .nils, .nils]]⟩).set H6.next ⟨10, [lu]⟩).next = H6.next + 1 := rfl
  have hu : SB { s with t := t } := ⟨ht, hs.up, hs.sems, hs.ports, hs.pages, hs.msgs, hs.data⟩
  (repeat' (first | (simp only [wp, extractV, exists_eq_left', if_true, if_false, ite_true, ite_false, reduceIte, Nat.reduceAdd, Nat.reduceLT, Nat.reduceLeDiff, Nat.reduceEqDiff, B6.fl, lu10, o7, bo]) | (with_reducible refine Run.gC ?_ ?_ <;> intro hb <;> try simp only [hb]) | (with_reducible refine Run.gG ?_ ?_ <;> intro hb <;> try simp only [hb]) | (with_reducible refine Run.gQ ?_ ?_ <;> intro hb <;> try simp only [hb])))
  generalize (H6.add ⟨10, [[.int .i64 0, .int .i64 0, .int .i64 0, .nils, .nils, .nils, .nils, .nils, .nils, .nils]]⟩).set H6.next ⟨10, [lu]⟩ = H7 at *
  generalize hNu : H6.next = Nu at *
  refine Run.qAll (P := fun y K' => y = .agg [x1, y1, z1]) (fun l hl => by simp [visB, Heap.add_next, Heap.set_next] at hl ⊢; omega) (fun K k1 k2 k3 => (from_run 9 (g7.in_ k1 k3) k2).mono fun y K' ⟨e, f⟩ => ⟨f, e⟩) fun y K' H8 e f8 _ _ => ?_
  subst e
  have B8 := B7.keep f8
  have n8 := f8.next
  have bu := (f8.old _ (by omega) id).trans bu
  have g8 := g7.frame f8 (fun _ _ => id)
  have u8 := u7.frame f8 (fun _ _ => id)
  (repeat' (first | (simp only [wp, extractV, exists_eq_left', if_true, if_false, ite_true, ite_false, reduceIte, Nat.reduceAdd, Nat.reduceLT, Nat.reduceLeDiff, Nat.reduceEqDiff, B8.b2]) | (with_reducible refine Run.gC ?_ ?_ <;> intro hb <;> try simp only [hb]) | (with_reducible refine Run.gG ?_ ?_ <;> intro hb <;> try simp only [hb]) | (with_reducible refine Run.gQ ?_ ?_ <;> intro hb <;> try simp only [hb])))
  refine Run.qAll (P := fun y K' => y = .bool true) (fun l hl => by simp [visB, Heap.add_next, Heap.set_next] at hl ⊢; omega) (fun K k1 k2 k3 => equal_run 8 (g8.in_ k1 k3) hs.t ((h K).t) hs.t ⟨Frame.refl _ _, by rw [decide_eq_true rfl]⟩) fun y K' H9 e f9 _ _ => ?_
  subst e
  have B9 := B8.keep f9
  have n9 := f9.next
  have bu := (f9.old _ (by omega) id).trans bu
  have u9 := u8.frame f9 (fun _ _ => id)
  (repeat' (first | (simp only [wp, extractV, exists_eq_left', if_true, if_false, ite_true, ite_false, reduceIte, Nat.reduceAdd, Nat.reduceLT, Nat.reduceLeDiff, Nat.reduceEqDiff, bu, lu10, tu10]) | (with_reducible refine Run.gC ?_ ?_ <;> intro hb <;> try simp only [hb]) | (with_reducible refine Run.gG ?_ ?_ <;> intro hb <;> try simp only [hb]) | (with_reducible refine Run.gQ ?_ ?_ <;> intro hb <;> try simp only [hb])))
  refine Run.qAll (P := fun v K' => ∃ x' y' z', v = .agg [x', y', z'] ∧ RdTab K' (fun _ => True) x' y' z' t) (fun l hl => by simp [visB, Heap.add_next, Heap.set_next] at hl ⊢; omega) (fun K k1 k2 k3 => (of_run 8 (u9.in_ k1 k3) hu k2).mono fun v K' ⟨f, x', y', z', e, r⟩ => ⟨f, x', y', z', e, r.imp fun _ _ _ => trivial⟩) fun v K' HA e fA eA1 eA2 => ?_
  obtain ⟨x2, y2, z2, rfl, r2⟩ := e
  have r2 := r2.same eA1 eA2
  have BA := B9.keep fA
  have nA := fA.next
  have bu := (fA.old _ (by omega) id).trans bu
  (repeat' (first | (simp only [wp, extractV, exists_eq_left', if_true, if_false, ite_true, ite_false, reduceIte, Nat.reduceAdd, Nat.reduceLT, Nat.reduceLeDiff, Nat.reduceEqDiff]) | (with_reducible refine Run.gC ?_ ?_ <;> intro hb <;> try simp only [hb]) | (with_reducible refine Run.gG ?_ ?_ <;> intro hb <;> try simp only [hb]) | (with_reducible refine Run.gQ ?_ ?_ <;> intro hb <;> try simp only [hb])))
  refine Run.qAll (P := fun y K' => y = .agg [x2, y2, z2]) (fun l hl => by simp [visB, Heap.add_next, Heap.set_next] at hl ⊢; omega) (fun K k1 k2 k3 => (from_run 9 (r2.in_ k1 k3) k2).mono fun y K' ⟨e, f⟩ => ⟨f, e⟩) fun y K' HB e fB _ _ => ?_
  subst e
  have BB := BA.keep fB
  have nB := fB.next
  have bu := (fB.old _ (by omega) id).trans bu
  have r2 := r2.frame fB (fun _ _ => id)
  (repeat' (first | (simp only [wp, extractV, exists_eq_left', if_true, if_false, ite_true, ite_false, reduceIte, Nat.reduceAdd, Nat.reduceLT, Nat.reduceLeDiff, Nat.reduceEqDiff, BB.b1]) | (with_reducible refine Run.gC ?_ ?_ <;> intro hb <;> try simp only [hb]) | (with_reducible refine Run.gG ?_ ?_ <;> intro hb <;> try simp only [hb]) | (with_reducible refine Run.gQ ?_ ?_ <;> intro hb <;> try simp only [hb])))
  refine Run.qAll (P := fun y K' => y = .bool true) (fun l hl => by simp [visB, Heap.add_next, Heap.set_next] at hl ⊢; omega) (fun K k1 k2 k3 => equal_run 8 (r2.in_ k1 k3) ht (h2 K) ht ⟨Frame.refl _ _, by rw [decide_eq_true rfl]⟩) fun y K' HC e fC _ _ => ?_
  subst e
  have BC := BB.keep fC
  have nC := fC.next
  have bu := (fC.old _ (by omega) id).trans bu
  have fuC := (((fA.tr fB).tr fC))
  have uC := u9.frame fuC (fun _ _ => id)
  (repeat' (first | (simp only [wp, extractV, exists_eq_left', if_true, if_false, ite_true, ite_false, reduceIte, Nat.reduceAdd, Nat.reduceLT, Nat.reduceLeDiff, Nat.reduceEqDiff, bu, lu10, tu10]) | (with_reducible refine Run.gC ?_ ?_ <;> intro hb <;> try simp only [hb]) | (with_reducible refine Run.gG ?_ ?_ <;> intro hb <;> try simp only [hb]) | (with_reducible refine Run.gQ ?_ ?_ <;> intro hb <;> try simp only [hb])))
  have eu := uC.eq
  refine (refOf_run 9 uC (by rw [BC.fl]; exact Nat.zero_le _)).mono fun v HD ⟨fD, e⟩ => ?_
  subst e
  have BD := BC.keep fD
  have nD := fD.next
  have bu := (fD.old _ (by omega) id).trans bu
  have uD := uC.frame fD (fun _ _ => id)
  (repeat' (first | (simp only [wp, extractV, exists_eq_left', if_true, if_false, ite_true, ite_false, reduceIte, Nat.reduceAdd, Nat.reduceLT, Nat.reduceLeDiff, Nat.reduceEqDiff, BD.fl, BD.b3, BD.b1, uD.t.rp.cells, uD.t.rq.cells, uD.t.rs.cells]) | (with_reducible refine Run.gC ?_ ?_ <;> intro hb <;> try simp only [hb]) | (with_reducible refine Run.gG ?_ ?_ <;> intro hb <;> try simp only [hb]) | (with_reducible refine Run.gQ ?_ ?_ <;> intro hb <;> try simp only [hb])))
  have u4 : 4 ≤ Nu := by have := B6.n; omega
  have o4 : 4 ≤ No := by have := B3.n; omega
  have nou : No < Nu := by omega
  have fT : Frame H7 HD (fun _ => False) := f8.tr (f9.tr (fA.tr (fB.tr (fC.tr fD))))
  have boD := (fT.old No (by omega) id).trans bo7
  have gD := g7.frame fT (fun _ _ => id)
  have fz : Frame HD (HD.set 3 ⟨3, [[ux, uy, uz]]⟩) (fun m => m = 3) := Frame.set _ _ rfl
  have uE := uD.frame fz (fun m hm e => by have := B5.n; omega)
  have gE := gD.frame fz (fun m hm e => by omega)
  have BE := BD.put3 [ux, uy, uz]
  have bu := (fz.old Nu (by omega) (by omega)).trans bu
  have bo := (fz.old No (by omega) (by omega)).trans boD
  have nE : (HD.set 3 ⟨3, [[ux, uy, uz]]⟩).next = HD.next := rfl
  generalize HD.set 3 ⟨3, [[ux, uy, uz]]⟩ = HE at *
  subst eu
  subst el
  refine equal_run 8 uE.t ht (h2 HE) ht ?_
  rw [decide_eq_true (rfl : t = t)]
  (repeat' (first | (simp only [wp, extractV, exists_eq_left', if_true, if_false, ite_true, ite_false, reduceIte, Nat.reduceAdd, Nat.reduceLT, Nat.reduceLeDiff, Nat.reduceEqDiff, bu, BE.b0, beq_self_eq_true, bo]) | (with_reducible refine Run.gC ?_ ?_ <;> intro hb <;> try simp only [hb]) | (with_reducible refine Run.gG ?_ ?_ <;> intro hb <;> try simp only [hb]) | (with_reducible refine Run.gQ ?_ ?_ <;> intro hb <;> try simp only [hb])))
  refine (into_run 7 uE hu gE hs.t BE.fl).mono fun v HF ⟨fF, lb, kx, ky, kz, ka, kb, kc, kd, kpr, e, rk⟩ => ?_
  subst e
  have BF := BE.keep fF
  have nF := fF.next
  have bu := (fF.old _ (by omega) id).trans bu
  have ek := rk.eq
  subst ek
  have m1 : ¬ (2 = HF.next) := by have := BF.n; omega
  have m2 : ¬ (0 = HF.next) := by have := BF.n; omega
  have m3 : ¬ (Nu = HF.next) := by omega
  have fG : Frame HF ((HF.add ⟨10, [[.int .i64 0, .int .i64 0, .int .i64 0, .nils, .nils, .nils, .nils, .nils, .nils, .nils]]⟩).set HF.next ⟨10, [[i64 s.id, i64 s.fr, i64 s.ep, kx, ky, kz, ka, kb, kc, kd]]⟩) (fun _ => False) := (Frame.add _ _).st (Nat.le_refl _) _
  have BG := BF.keep fG
  have bu := (fG.old _ (by omega) id).trans bu
  have rG := rk.frame fG (fun _ _ => id)
  have uG := (uE.frame fF (fun _ _ => id)).frame fG (fun _ _ => id)
  have nG : ((HF.add ⟨10, [[.int .i64 0, .int .i64 0, .int .i64 0, .nils, .nils, .nils, .nils, .nils, .nils, .nils]]⟩).set HF.next ⟨10, [[i64 s.id, i64 s.fr, i64 s.ep, kx, ky, kz, ka, kb, kc, kd]]⟩).next = HF.next + 1 := rfl
  (repeat' (first | (simp only [wp, extractV, exists_eq_left', if_true, if_false, ite_true, ite_false, reduceIte, Nat.reduceAdd, Nat.reduceLT, Nat.reduceLeDiff, Nat.reduceEqDiff, BF.fl, m1, m2, m3]) | (with_reducible refine Run.gC ?_ ?_ <;> intro hb <;> try simp only [hb]) | (with_reducible refine Run.gG ?_ ?_ <;> intro hb <;> try simp only [hb]) | (with_reducible refine Run.gQ ?_ ?_ <;> intro hb <;> try simp only [hb])))
  have u1 : Nu < HF.next := by omega
  generalize (HF.add ⟨10, [[.int .i64 0, .int .i64 0, .int .i64 0, .nils, .nils, .nils, .nils, .nils, .nils, .nils]]⟩).set HF.next ⟨10, [[i64 s.id, i64 s.fr, i64 s.ep, kx, ky, kz, ka, kb, kc, kd]]⟩ = HG at *
  refine Run.qAll (P := fun y K' => y = .agg [kx, ky, kz]) (fun l hl => by simp [visB, Heap.add_next, Heap.set_next] at hl ⊢; omega) (fun K k1 k2 k3 => (refOf_run 9 (rG.in_ k1 k3) k2).mono fun y K' ⟨f, e⟩ => ⟨f, e⟩) fun y K' HH e fH _ _ => ?_
  subst e
  have BH := BG.keep fH
  have nH := fH.next
  have bu := (fH.old _ (by omega) id).trans bu
  have rH := rG.frame fH (fun _ _ => id)
  have uH := uG.frame fH (fun _ _ => id)
  (repeat' (first | (simp only [wp, extractV, exists_eq_left', if_true, if_false, ite_true, ite_false, reduceIte, Nat.reduceAdd, Nat.reduceLT, Nat.reduceLeDiff, Nat.reduceEqDiff, BH.b2]) | (with_reducible refine Run.gC ?_ ?_ <;> intro hb <;> try simp only [hb]) | (with_reducible refine Run.gG ?_ ?_ <;> intro hb <;> try simp only [hb]) | (with_reducible refine Run.gQ ?_ ?_ <;> intro hb <;> try simp only [hb])))
  refine Run.qAll (P := fun y K' => y = .bool true) (fun l hl => by simp [visB, Heap.add_next, Heap.set_next] at hl ⊢; omega) (fun K k1 k2 k3 => equal_run 8 ((rH.in_ k1 k3).t) hs.t ((h K).t) hs.t ⟨Frame.refl _ _, by rw [decide_eq_true rfl]⟩) fun y K' HJ e fJ _ _ => ?_
  subst e
  have BJ := BH.keep fJ
  have nJ := fJ.next
  have bu := (fJ.old _ (by omega) id).trans bu
  have uJ := uH.frame fJ (fun _ _ => id)
  have sJ := h HJ
  have v1 : lenV ua = some (.int .i64 (s.up.length : Nat)) := by have := uJ.up.len; rwa [List.length_map] at this
  have v2 : lenV a = some (.int .i64 (s.up.length : Nat)) := by have := sJ.up.len; rwa [List.length_map] at this
  have v3 : lenV uc = some (.int .i64 (s.ports.length : Nat)) := by have := uJ.ports.len; rwa [uJ.plen] at this
  have v4 : lenV c = some (.int .i64 (s.ports.length : Nat)) := by have := sJ.ports.len; rwa [sJ.plen] at this
  have v5 : lenV ud = some (.int .i64 (s.pages.length : Nat)) := by have := uJ.pages.len; rwa [List.length_map] at this
  have v6 : lenV d = some (.int .i64 (s.pages.length : Nat)) := by have := sJ.pages.len; rwa [List.length_map] at this
  (repeat' (first | (simp only [wp, extractV, exists_eq_left', if_true, if_false, ite_true, ite_false, reduceIte, Nat.reduceAdd, Nat.reduceLT, Nat.reduceLeDiff, Nat.reduceEqDiff, bu, BJ.b0, v1, v2, v3, v4, v5, v6, beq_self_eq_true]) | (with_reducible refine Run.gC ?_ ?_ <;> intro hb <;> try simp only [hb]) | (with_reducible refine Run.gG ?_ ?_ <;> intro hb <;> try simp only [hb]) | (with_reducible refine Run.gQ ?_ ?_ <;> intro hb <;> try simp only [hb])))
  refine Run.qAll (P := fun y K' => y = .bool true) (fun l hl => by simp [visB, Heap.add_next, Heap.set_next] at hl ⊢; omega) (fun K k1 k2 k3 => ints_run 9 (uJ.sems.in_ k1 k3) (sJ.sems.in_ k1 k3) hs.sems.2 ⟨Frame.refl _ _, by rw [decide_eq_true rfl]⟩) fun y K' HL e fL _ _ => ?_
  subst e
  have BL := BJ.keep fL
  have bu := (fL.old _ (by omega) id).trans bu
  have uL := uJ.frame fL (fun _ _ => id)
  have sL := h HL
  (repeat' (first | (simp only [wp, extractV, exists_eq_left', if_true, if_false, ite_true, ite_false, reduceIte, Nat.reduceAdd, Nat.reduceLT, Nat.reduceLeDiff, Nat.reduceEqDiff]) | (with_reducible refine Run.gC ?_ ?_ <;> intro hb <;> try simp only [hb]) | (with_reducible refine Run.gG ?_ ?_ <;> intro hb <;> try simp only [hb]) | (with_reducible refine Run.gQ ?_ ?_ <;> intro hb <;> try simp only [hb])))
  refine Run.loop (N := s.up.length) (fun k st H' => st = [.bool false, i64 k] ∧ H' = HL) ⟨rfl, rfl⟩ ?_
  rintro k st H' hk ⟨rfl, rfl⟩
  simp only [ferry_ferrylaw09_ReadyStates_l1]
  by_cases hlt : k < s.up.length
  · obtain ⟨p1, i1, w1, _⟩ := uL.up.idx (k := .i64) (i := k) (by rw [List.length_map]; exact hlt)
    obtain ⟨p2, i2, w2, _⟩ := sL.up.idx (k := .i64) (i := k) (by rw [List.length_map]; exact hlt)
    simp only [List.getElem_map] at w1 w2
    have ld1 : ∀ Q, Run (load1 p1) H' Q ↔ Q (.bool s.up[k]) H' := fun Q => Run.loadAt w1 rfl
    have ld2 : ∀ Q, Run (load1 p2) H' Q ↔ Q (.bool s.up[k]) H' := fun Q => Run.loadAt w2 rfl
    (repeat' (first | (simp only [wp, extractV, exists_eq_left', if_true, if_false, ite_true, ite_false, reduceIte, Nat.reduceAdd, Nat.reduceLT, Nat.reduceLeDiff, Nat.reduceEqDiff, bu, BL.b0, v1, v2, ltT hlt, i1, i2, ld1, ld2, beq_self_eq_true, addN hlt hs.up.2]) | (with_reducible refine Run.gC ?_ ?_ <;> intro hb <;> try simp only [hb]) | (with_reducible refine Run.gG ?_ ?_ <;> intro hb <;> try simp only [hb]) | (with_reducible refine Run.gQ ?_ ?_ <;> intro hb <;> try simp only [hb])))
    exact hlt
  (repeat' (first | (simp only [wp, extractV, exists_eq_left', if_true, if_false, ite_true, ite_false, reduceIte, Nat.reduceAdd, Nat.reduceLT, Nat.reduceLeDiff, Nat.reduceEqDiff, bu, BL.b0, v2, ltF hlt]) | (with_reducible refine Run.gC ?_ ?_ <;> intro hb <;> try simp only [hb]) | (with_reducible refine Run.gG ?_ ?_ <;> intro hb <;> try simp only [hb]) | (with_reducible refine Run.gQ ?_ ?_ <;> intro hb <;> try simp only [hb])))
  refine Run.loop (N := s.pages.length) (fun k st H'' => st = [.bool false, i64 k] ∧ H'' = H') ⟨rfl, rfl⟩ ?_
  rintro k st H'' hk ⟨rfl, rfl⟩
  simp only [ferry_ferrylaw09_ReadyStates_l2]
  by_cases hlt : k < s.pages.length
  · obtain ⟨p1, i1, w1, _⟩ := uL.pages.idx (k := .i64) (i := k) (by rw [List.length_map]; exact hlt)
    obtain ⟨p2, i2, w2, _⟩ := sL.pages.idx (k := .i64) (i := k) (by rw [List.length_map]; exact hlt)
    simp only [List.getElem_map] at w1 w2
    have hd := hs.data _ (List.getElem_mem hlt)
    have p66 : (paR s.pages[k]).length = 66 := by simp [paR, hd]
    have t66 : ((paR s.pages[k]).drop 0).take 66 = paR s.pages[k] := by rw [List.drop_zero]; exact List.take_of_length_le (by omega)
    have ld1 : ∀ Q, Run (loadN 66 p1) H'' Q ↔ Q (.agg (paR s.pages[k])) H'' := fun Q => by rw [Run.loadNAt w1 (by omega), t66]
    have ld2 : ∀ Q, Run (loadN 66 p2) H'' Q ↔ Q (.agg (paR s.pages[k])) H'' := fun Q => by rw [Run.loadNAt w2 (by omega), t66]
    (repeat' (first | (simp only [wp, extractV, exists_eq_left', if_true, if_false, ite_true, ite_false, reduceIte, Nat.reduceAdd, Nat.reduceLT, Nat.reduceLeDiff, Nat.reduceEqDiff, bu, BL.b0, v5, v6, ltT hlt, i1, i2, ld1, ld2, eq_pa hd, addN hlt hs.pages.2]) | (with_reducible refine Run.gC ?_ ?_ <;> intro hb <;> try simp only [hb]) | (with_reducible refine Run.gG ?_ ?_ <;> intro hb <;> try simp only [hb]) | (with_reducible refine Run.gQ ?_ ?_ <;> intro hb <;> try simp only [hb])))
    exact hlt
  (repeat' (first | (simp only [wp, extractV, exists_eq_left', if_true, if_false, ite_true, ite_false, reduceIte, Nat.reduceAdd, Nat.reduceLT, Nat.reduceLeDiff, Nat.reduceEqDiff, bu, BL.b0, v6, ltF hlt]) | (with_reducible refine Run.gC ?_ ?_ <;> intro hb <;> try simp only [hb]) | (with_reducible refine Run.gG ?_ ?_ <;> intro hb <;> try simp only [hb]) | (with_reducible refine Run.gQ ?_ ?_ <;> intro hb <;> try simp only [hb])))
  refine Run.loop (N := s.ports.length) (fun k st H3 => st = [.bool false, i64 k] ∧ H3 = H'') ⟨rfl, rfl⟩ ?_
  rintro k st H3 hk ⟨rfl, rfl⟩
  simp only [ferry_ferrylaw09_ReadyStates_l3]
  by_cases hlt : k < s.ports.length
  · have k1 : k < upr.length := by rw [uL.plen]; exact hlt
    have k2 : k < pr.length := by rw [sL.plen]; exact hlt
    obtain ⟨p1, i1, w1, a1⟩ := uL.ports.idx (k := .i64) (i := k) k1
    obtain ⟨p2, i2, w2, a2⟩ := sL.ports.idx (k := .i64) (i := k) k2
    obtain ⟨m1', e1', r1', _⟩ := uL.prow k k1
    obtain ⟨m2', e2', r2', _⟩ := sL.prow k k2
    obtain ⟨q10, b10, c10⟩ := a1 0
    obtain ⟨q11, b11, c11⟩ := a1 1
    obtain ⟨q20, b20, c20⟩ := a2 0
    obtain ⟨q21, b21, c21⟩ := a2 1
    have e1' : upr[k] = [m1', i64 s.ports[k].age] := e1'
    have e2' : pr[k] = [m2', i64 s.ports[k].age] := e2'
    rw [e1'] at c10 c11
    rw [e2'] at c20 c21
    have l10' : ∀ Q, Run (load1 q10) H3 Q ↔ Q m1' H3 := fun Q => Run.loadAt c10 rfl
    have l11' : ∀ Q, Run (load1 q11) H3 Q ↔ Q (i64 s.ports[k].age) H3 := fun Q => Run.loadAt c11 rfl
    have l20' : ∀ Q, Run (load1 q20) H3 Q ↔ Q m2' H3 := fun Q => Run.loadAt c20 rfl
    have l21' : ∀ Q, Run (load1 q21) H3 Q ↔ Q (i64 s.ports[k].age) H3 := fun Q => Run.loadAt c21 rfl
    have w1' : lenV m1' = some (.int .i64 (s.ports[k].msgs.length : Nat)) := by have := r1'.len; rwa [List.length_map] at this
    have w2' : lenV m2' = some (.int .i64 (s.ports[k].msgs.length : Nat)) := by have := r2'.len; rwa [List.length_map] at this
    have hmb := hs.msgs _ (List.getElem_mem hlt)
    (repeat' (first | (simp only [wp, extractV, exists_eq_left', if_true, if_false, ite_true, ite_false, reduceIte, Nat.reduceAdd, Nat.reduceLT, Nat.reduceLeDiff, Nat.reduceEqDiff, bu, BL.b0, v3, v4, ltT hlt, i1, i2, b10, b11, b20, b21, l10', l11', l20', l21', w1', w2', beq_self_eq_true]) | (with_reducible refine Run.gC ?_ ?_ <;> intro hb <;> try simp only [hb]) | (with_reducible refine Run.gG ?_ ?_ <;> intro hb <;> try simp only [hb]) | (with_reducible refine Run.gQ ?_ ?_ <;> intro hb <;> try simp only [hb])))
    refine Run.loop (N := s.ports[k].msgs.length) (fun j st H4 => st = [.bool false, i64 j] ∧ H4 = H3) ⟨rfl, rfl⟩ ?_
    rintro j st H4 hj ⟨rfl, rfl⟩
    simp only [ferry_ferrylaw09_ReadyStates_l4]
    by_cases hjt : j < s.ports[k].msgs.length
    · obtain ⟨p3, i3, w3, _⟩ := r1'.idx (k := .i64) (i := j) (by rw [List.length_map]; exact hjt)
      obtain ⟨p4, i4, w4, _⟩ := r2'.idx (k := .i64) (i := j) (by rw [List.length_map]; exact hjt)
      simp only [List.getElem_map] at w3 w4
      have l3 : ∀ Q, Run (load1 p3) H4 Q ↔ Q (.str s.ports[k].msgs[j]) H4 := fun Q => Run.loadAt w3 rfl
      have l4 : ∀ Q, Run (load1 p4) H4 Q ↔ Q (.str s.ports[k].msgs[j]) H4 := fun Q => Run.loadAt w4 rfl
      (repeat' (first | (simp only [wp, extractV, exists_eq_left', if_true, if_false, ite_true, ite_false, reduceIte, Nat.reduceAdd, Nat.reduceLT, Nat.reduceLeDiff, Nat.reduceEqDiff, bu, BL.b0, i1, i2, b10, b20, l10', l20', w2', ltT hjt, i3, i4, l3, l4, beq_self_eq_true, addN hjt hmb.2]) | (with_reducible refine Run.gC ?_ ?_ <;> intro hb <;> try simp only [hb]) | (with_reducible refine Run.gG ?_ ?_ <;> intro hb <;> try simp only [hb]) | (with_reducible refine Run.gQ ?_ ?_ <;> intro hb <;> try simp only [hb])))
      exact hjt
    · (repeat' (first | (simp only [wp, extractV, exists_eq_left', if_true, if_false, ite_true, ite_false, reduceIte, Nat.reduceAdd, Nat.reduceLT, Nat.reduceLeDiff, Nat.reduceEqDiff, bu, BL.b0, i1, i2, b10, b20, l10', l20', w2', ltF hjt, addN hlt hs.ports.2]) | (with_reducible refine Run.gC ?_ ?_ <;> intro hb <;> try simp only [hb]) | (with_reducible refine Run.gG ?_ ?_ <;> intro hb <;> try simp only [hb]) | (with_reducible refine Run.gQ ?_ ?_ <;> intro hb <;> try simp only [hb])))
      exact hlt
  (repeat' (first | (simp only [wp, extractV, exists_eq_left', if_true, if_false, ite_true, ite_false, reduceIte, Nat.reduceAdd, Nat.reduceLT, Nat.reduceLeDiff, Nat.reduceEqDiff, bu, BL.b0, v4, ltF hlt]) | (with_reducible refine Run.gC ?_ ?_ <;> intro hb <;> try simp only [hb]) | (with_reducible refine Run.gG ?_ ?_ <;> intro hb <;> try simp only [hb]) | (with_reducible refine Run.gQ ?_ ?_ <;> intro hb <;> try simp only [hb])))
end Go.Fv.Tr
