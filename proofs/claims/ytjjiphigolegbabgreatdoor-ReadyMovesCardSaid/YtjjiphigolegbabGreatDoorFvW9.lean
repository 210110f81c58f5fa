/-
  What the document's functions of the layer 9 answer: copied, woken. What the document's functions of the layer 9 answer: woken. By an AI agent; no person has read it.
-/
import Derived.Test.YtjjiphigolegbabGreatDoorFvSpW
import Derived.Test.YtjjiphigolegbabGreatDoorFvTr10
set_option linter.unusedVariables false
set_option linter.unusedSimpArgs false
set_option linter.unusedSectionVars false
/-! What the document's functions of the layer 9 answer: copied, woken. -/
namespace Go.Fv.Tr
open Go Go.Fv Go.Fv.Pl Go.Proofs
set_option linter.unusedSimpArgs false
set_option linter.unusedVariables false
variable {G : Nat → Option (List V)}

theorem app_fresh {K : Heap} {y : V} {sz bytes : Nat} {rows : List (List V)} (hK : K.floor ≤ K.next) (hy : Sls y sz rows) (hr : rows.length * bytes ≤ room) :
    Run (Fv.appV sz bytes .emp y) K fun x' K' => Own K' x' sz rows ∧ Frame K K' (fun _ => False) ∧ ∀ l, loc x' = some l → K.next ≤ l := by
  refine (Run.app (bytes := bytes) hK (Own.emp K sz) (hy.items _) (by simpa using hr)).mono fun x' K' ⟨o, f, l⟩ => ⟨by simpa using o, f.mono (fun _ _ h => (by cases h)), fun k hk => (l k hk).elim (fun h => (by cases h)) id⟩
theorem tapp_fresh {H : Heap} {y : V} {sz bytes : Nat} {rows : List (List V)} {v : Nat → Bool} (hH : H.floor ≤ H.next) (hy : Sls y sz rows) (hr : rows.length * bytes ≤ room) :
    Run (trun v (Fv.appV sz bytes .emp y)) H fun x' H' => Own H' x' sz rows ∧ Frame H H' (fun _ => False) ∧ ∀ l, loc x' = some l → H.next ≤ l := by
  refine (Run.tapp (bytes := bytes) hH (Own.emp H sz) (fun _ h => by cases h) (hy.items _) (by simpa using hr)).mono fun x' K' ⟨o, f, l⟩ => ⟨by simpa using o, f.mono (fun _ _ h => (by cases h)), fun k hk => (l k hk).elim (fun h => (by cases h)) id⟩

theorem rcopied_spec (n : Nat) {x y z : V} {t : Tab} (h : IsTab x y z t) (hs : Small t) {H : Heap} (hH : H.floor ≤ H.next) :
    Run (callV (cfg G) (sem (cfg G) (n + 1)) 30 [.agg [x, y, z]]) H (NewTab H t) := by
  refine callV_own rfl (mapM_closedV (by simp [h.closed]) H) ?_
  rw [ferry_ferryref09_copied_eq]
  simp only [ferry_ferryref09_copied]
  (repeat' (first | (simp only [wp, extractV, exists_eq_left', if_true, if_false, ite_true, ite_false, reduceIte, Nat.reduceAdd, Nat.reduceLT, Nat.reduceLeDiff, Nat.reduceEqDiff, Run.slice0]) | (with_reducible refine Run.gC ?_ ?_ <;> intro hb <;> try simp only [hb]) | (with_reducible refine Run.gG ?_ ?_ <;> intro hb <;> try simp only [hb]) | (with_reducible refine Run.gQ ?_ ?_ <;> intro hb <;> try simp only [hb])))
  refine Run.qfresh (by exact Nat.zero_le _) (fun K _ hK => app_fresh hK h.p (by rw [List.length_map]; exact hs.p)) fun x1 H1 o1 f1 l1 => ?_
  have a1 : H1.blk 0 = some ⟨3, [[x, y, z]]⟩ := (f1.old 0 (by exact Nat.zero_lt_succ _) id).trans rfl
  have e1 : H1.floor = 0 := f1.floor
  have n1 : 2 ≤ H1.next := f1.next
  (repeat' (first | (simp only [wp, extractV, exists_eq_left', if_true, if_false, ite_true, ite_false, reduceIte, Nat.reduceAdd, Nat.reduceLT, Nat.reduceLeDiff, Nat.reduceEqDiff, a1, Run.slice0]) | (with_reducible refine Run.gC ?_ ?_ <;> intro hb <;> try simp only [hb]) | (with_reducible refine Run.gG ?_ ?_ <;> intro hb <;> try simp only [hb]) | (with_reducible refine Run.gQ ?_ ?_ <;> intro hb <;> try simp only [hb])))
  refine Run.qfresh (by omega) (fun K _ hK => app_fresh hK h.q (by rw [List.length_map]; exact hs.q)) fun x2 H2 o2 f2 l2 => ?_
  have a2 : H2.blk 0 = some ⟨3, [[x, y, z]]⟩ := (f2.old 0 (by omega) id).trans a1
  have e2 : H2.floor = 0 := f2.floor.trans e1
  have n2 := f2.next
  (repeat' (first | (simp only [wp, extractV, exists_eq_left', if_true, if_false, ite_true, ite_false, reduceIte, Nat.reduceAdd, Nat.reduceLT, Nat.reduceLeDiff, Nat.reduceEqDiff, a2, Run.slice0]) | (with_reducible refine Run.gC ?_ ?_ <;> intro hb <;> try simp only [hb]) | (with_reducible refine Run.gG ?_ ?_ <;> intro hb <;> try simp only [hb]) | (with_reducible refine Run.gQ ?_ ?_ <;> intro hb <;> try simp only [hb])))
  refine (tapp_fresh (by omega) h.s (by rw [List.length_map]; exact hs.s)).mono fun x3 H3 ⟨o3, f3, l3⟩ => ?_
  have n3 := f3.next
  have e3 : H3.floor = 0 := f3.floor.trans e2
  have b3 : H3.blk 1 = some ⟨3, [[.nils, .nils, .nils]]⟩ := (f3.old 1 (by omega) id).trans ((f2.old 1 (by omega) id).trans ((f1.old 1 (by exact Nat.lt_succ_self 1) id).trans rfl))
  (repeat' (first | (simp only [wp, extractV, exists_eq_left', if_true, if_false, ite_true, ite_false, reduceIte, Nat.reduceAdd, Nat.reduceLT, Nat.reduceLeDiff, Nat.reduceEqDiff, buildV, fill, putRow, o1.cells, o2.cells, o3.cells, b3, e3, tupV]) | (with_reducible refine Run.gC ?_ ?_ <;> intro hb <;> try simp only [hb]) | (with_reducible refine Run.gG ?_ ?_ <;> intro hb <;> try simp only [hb]) | (with_reducible refine Run.gQ ?_ ?_ <;> intro hb <;> try simp only [hb])))
  have fB : Frame H3 (H3.set 1 ⟨3, [[x1, x2, x3]]⟩) (fun k => k = 1) := Frame.set _ _ rfl
  have k1 : ∀ k, loc x1 = some k → 2 ≤ k := fun k hk => l1 k hk
  have k2 : ∀ k, loc x2 = some k → H1.next ≤ k := fun k hk => l2 k hk
  have k3 : ∀ k, loc x3 = some k → H2.next ≤ k := fun k hk => l3 k hk
  have oT : OwnTab (H3.set 1 ⟨3, [[x1, x2, x3]]⟩) x1 x2 x3 t := by
    refine ⟨((o1.frame f2 fun _ _ h => h).frame f3 fun _ _ h => h).frame fB fun k hk e => by have := k1 k hk; omega, (o2.frame f3 fun _ _ h => h).frame fB fun k hk e => by have := k2 k hk; omega, o3.frame fB fun k hk e => by have := k3 k hk; omega, fun k h1 h2 => ?_, fun k h1 h2 => ?_, fun k h1 h2 => ?_⟩
    · have := o1.lt h1; have := k2 k h2; omega
    · have := o1.lt h1; have := k3 k h2; omega
    · have := o2.lt h1; have := k3 k h2; omega
  exact oT.hand hH
end Go.Fv.Tr

/-! What the document's functions of the layer 9 answer: woken. -/
namespace Go.Fv.Tr
open Go Go.Fv Go.Fv.Pl Go.Proofs
set_option linter.unusedSimpArgs false
set_option linter.unusedVariables false
variable {G : Nat → Option (List V)}

/-- A table of one's own in a block of its own, behind two others. -/
structure InW (H : Heap) (x y z : V) (lt : Nat) (a b c : V) (u : Tab) : Prop where
  fl : H.floor = 0
  b0 : H.blk 0 = some ⟨3, [[x, y, z]]⟩
  b1 : H.blk 1 = some ⟨3, [[.nils, .nils, .nils]]⟩
  l2 : 2 ≤ lt
  ln : lt < H.next
  bl : H.blk lt = some ⟨3, [[a, b, c]]⟩
  o : OwnTab H a b c u
  k : ∀ k, (loc a = some k ∨ loc b = some k ∨ loc c = some k) → 2 ≤ k ∧ k ≠ lt

set_option maxRecDepth 20000 in
theorem woken_spec (n : Nat) {x y z : V} {t : Tab} (h : IsTab x y z t) (hok : TabOk t) {m : Int} {q : Pr} (hm : at? t.ps m = some q) (hs2 : q.state = 2) (r1 : Int) :
    Says (cfg G) (sem (cfg G) (n + 2)) 33 [.agg [x, y, z], .int .i64 m, .int .u32 r1] fun r => ∃ a b c, r = .agg [a, b, c] ∧ IsTab a b c (t.wake m r1) := by
  intro ok
  have hlt0 := at?_lt hm
  obtain ⟨p, rfl⟩ := Int.eq_ofNat_of_zero_le hlt0.1
  have hp : p < t.ps.length := by omega
  have few := ((ROk_iff t).2 hok).few
  have sm := small_of hok
  have hgw := h.wp _ (List.getElem_mem hp)
  obtain ⟨a0, a1, a2, a3, a4, a5, a6, a7, a8, a9, a10, a11, a12, a13, a14, a15, hregs⟩ := len16 hgw
  have hrow : prRow t.ps[p] = [.int .u32 a0, .int .u32 a1, .int .u32 a2, .int .u32 a3, .int .u32 a4, .int .u32 a5, .int .u32 a6, .int .u32 a7, .int .u32 a8, .int .u32 a9, .int .u32 a10, .int .u32 a11, .int .u32 a12, .int .u32 a13, .int .u32 a14, .int .u32 a15,
      .int .u32 t.ps[p].pc, .int .i64 t.ps[p].state, .int .i64 t.ps[p].prio, .int .i64 t.ps[p].wait, .int .i64 t.ps[p].obj] := by unfold prRow; rw [hregs]; rfl
  have hrow' : prRow (wakeP r1 t.ps[p]) = [.int .u32 a0, .int .u32 r1, .int .u32 a2, .int .u32 a3, .int .u32 a4, .int .u32 a5, .int .u32 a6, .int .u32 a7, .int .u32 a8, .int .u32 a9, .int .u32 a10, .int .u32 a11, .int .u32 a12, .int .u32 a13, .int .u32 a14, .int .u32 a15,
      .int .u32 t.ps[p].pc, .int .i64 1, .int .i64 t.ps[p].prio, .int .i64 0, .int .i64 0] := by unfold prRow wakeP; rw [hregs]; rfl
  rw [ferry_ferryref09_woken_eq]
  simp only [ferry_ferryref09_woken]
  (repeat' (first | (simp only [wp, extractV, exists_eq_left', if_true, if_false, ite_true, ite_false, reduceIte, Nat.reduceAdd, Nat.reduceLT, Nat.reduceLeDiff, Nat.reduceEqDiff]) | (with_reducible refine Run.gC ?_ ?_ <;> intro hb <;> try simp only [hb]) | (with_reducible refine Run.gG ?_ ?_ <;> intro hb <;> try simp only [hb]) | (with_reducible refine Run.gQ ?_ ?_ <;> intro hb <;> try simp only [hb])))
  refine (rcopied_spec _ h sm (by exact Nat.zero_le _)).mono fun v H1 ⟨a, b, c, e, o1, f1, l1⟩ => ?_
  subst e
  have n1 : 2 ≤ H1.next := f1.next
  have e1 : H1.floor = 0 := f1.floor
  have c0 : H1.blk 0 = some ⟨3, [[x, y, z]]⟩ := (f1.old 0 (by exact Nat.zero_lt_succ _) id).trans rfl
  have c1 : H1.blk 1 = some ⟨3, [[.nils, .nils, .nils]]⟩ := (f1.old 1 (by exact Nat.lt_succ_self 1) id).trans rfl
  have l1' : ∀ k, (loc a = some k ∨ loc b = some k ∨ loc c = some k) → 2 ≤ k := l1
  obtain ⟨lx, bx, ex, hix, hbx, hrx, hfx⟩ := o1.p.idx (k := .i64) (i := p) (by simpa using hp)
  simp only [List.getElem_map] at hrx
  have hlx := o1.lt (.inl ex)
  have hlx2 := l1' lx (.inl ex)
  have hpl : p < bx.rows.length := (List.getElem?_eq_some_iff.1 hrx).1
  rw [hrow] at hrx
  have hgs : ∀ r : List V, (bx.rows.set p r)[p]? = some r := fun r => List.getElem?_set_self hpl
  have hai : aidxV 16 1 (.ptr lx p 0) (.int .i64 1) = some (.ptr lx p 1) := by simp [aidxV, padd]
  have m1 : ¬ lx = H1.next := by omega
  have m2 : ¬ H1.next = lx := by omega
  (repeat' (first | (simp only [wp, extractV, exists_eq_left', if_true, if_false, ite_true, ite_false, reduceIte, Nat.reduceAdd, Nat.reduceLT, Nat.reduceLeDiff, Nat.reduceEqDiff, e1, hix, hbx, hrx, hgs, Heap.set_set, List.set_set, hai, m1, m2]) | (with_reducible refine Run.gC ?_ ?_ <;> intro hb <;> try simp only [hb]) | (with_reducible refine Run.gG ?_ ?_ <;> intro hb <;> try simp only [hb]) | (with_reducible refine Run.gQ ?_ ?_ <;> intro hb <;> try simp only [hb])))
  rw [← hrow']
  have fA : Frame H1 ((H1.add ⟨3, [[.nils, .nils, .nils]]⟩).set H1.next ⟨3, [[a, b, c]]⟩) (fun _ => False) := Frame.loc _ _
  have hx2 := (o1.p.frame fA fun _ _ g => g).put (i := p) ex ((fA.old lx hlx id).trans hbx) (prRow (wakeP r1 t.ps[p]))
  rw [← setP_map hp (f := wakeP r1)] at hx2
  have fx := fA.trans (Frame.set ⟨bx.sz, bx.rows.set p (prRow (wakeP r1 t.ps[p]))⟩ lx (p := fun k => loc a = some k) ex) (r := fun k => loc a = some k) (fun _ _ g => g.elim) (fun _ _ g => g)
  have bl2 : (((H1.add ⟨3, [[.nils, .nils, .nils]]⟩).set H1.next ⟨3, [[a, b, c]]⟩).set lx ⟨bx.sz, bx.rows.set p (prRow (wakeP r1 t.ps[p]))⟩).blk H1.next = some ⟨3, [[a, b, c]]⟩ := by
    rw [Heap.set_blk, if_neg m2, Heap.set_blk, if_pos rfl]
  have hn2 : (((H1.add ⟨3, [[.nils, .nils, .nils]]⟩).set H1.next ⟨3, [[a, b, c]]⟩).set lx ⟨bx.sz, bx.rows.set p (prRow (wakeP r1 t.ps[p]))⟩).next = H1.next + 1 := rfl
  generalize ((H1.add ⟨3, [[.nils, .nils, .nils]]⟩).set H1.next ⟨3, [[a, b, c]]⟩).set lx ⟨bx.sz, bx.rows.set p (prRow (wakeP r1 t.ps[p]))⟩ = H2 at hx2 fx bl2 hn2 ⊢
  refine (Run.slice (n := 0)).2 ⟨[intRow (p : Int)], rfl, ?_⟩
  have f3 := fx.trans (Frame.add ⟨1, [intRow (p : Int)]⟩ (fun _ => False)) (r := fun k => loc a = some k) (fun _ _ g => g) (fun _ _ g => g.elim)
  refine (Run.app (items := [intRow (p : Int)]) (by rw [f3.floor, e1]; exact Nat.zero_le _) (o1.q.frame f3 fun k h1 h2 => o1.pq k h2 h1) (by simp [itemsV, Heap.add_blk]) (by simp only [List.length_map, List.length_cons, List.length_nil]; unfold room; omega)).mono fun b' H4 ⟨ob, f4, l4⟩ => ?_
  have f5 := f3.trans f4 (r := fun k => loc a = some k ∨ loc b = some k) (fun _ _ g => .inl g) (fun _ _ g => .inr g)
  have e4 : H4.floor = 0 := f5.floor.trans e1
  have hnx4 := f4.next
  rw [Heap.add_next, hn2] at hnx4
  have lb : ∀ k, loc b' = some k → loc b = some k ∨ H1.next < k := fun k hk => (l4 k hk).imp id fun g => by rw [Heap.add_next, hn2] at g; omega
  have hbn : ∀ k, loc b = some k → k < H1.next := fun k hk => o1.lt (.inr (.inl hk))
  have bl4 : H4.blk H1.next = some ⟨3, [[a, b, c]]⟩ := (f4.old H1.next (by rw [Heap.add_next, hn2]; omega) fun g => by have := hbn _ g; omega).trans ((Heap.add_old (by omega)).trans bl2)
  have d0 : H4.blk 0 = some ⟨3, [[x, y, z]]⟩ := (f5.old 0 (by omega) fun g => by
    rcases g with g | g
    · have := l1' 0 (.inl g); omega
    · have := l1' 0 (.inr (.inl g)); omega).trans c0
  have d1 : H4.blk 1 = some ⟨3, [[.nils, .nils, .nils]]⟩ := (f5.old 1 (by omega) fun g => by
    rcases g with g | g
    · have := l1' 1 (.inl g); omega
    · have := l1' 1 (.inr (.inl g)); omega).trans c1
  have oa4 : Own H4 a 21 ((setP t.ps (p : Int) (wakeP r1)).map prRow) := (hx2.frame (Frame.add ⟨1, [intRow (p : Int)]⟩ (fun _ => False)) fun _ _ g => g).frame f4 fun k h1 h2 => o1.pq k h1 h2
  have kall : ∀ k, (loc a = some k ∨ loc b' = some k) → 2 ≤ k ∧ k ≠ H1.next := fun k hk => by
    rcases hk with g | g
    · exact ⟨l1' k (.inl g), by have := o1.lt (.inl g); omega⟩
    · rcases lb k g with g | g
      · exact ⟨l1' k (.inr (.inl g)), by have := hbn k g; omega⟩
      · omega
  (repeat' (first | (simp only [wp, extractV, exists_eq_left', if_true, if_false, ite_true, ite_false, reduceIte, Nat.reduceAdd, Nat.reduceLT, Nat.reduceLeDiff, Nat.reduceEqDiff, bl4, e4, ob.cells]) | (with_reducible refine Run.gC ?_ ?_ <;> intro hb <;> try simp only [hb]) | (with_reducible refine Run.gG ?_ ?_ <;> intro hb <;> try simp only [hb]) | (with_reducible refine Run.gQ ?_ ?_ <;> intro hb <;> try simp only [hb])))
  have f6 : Frame H4 (H4.set H1.next ⟨3, [[a, b', .nils]]⟩) (fun k => k = H1.next) := Frame.set _ _ rfl
  have ob' : Own H4 b' 1 ((t.q ++ [(p : Int)]).map intRow) := by rw [List.map_append]; exact ob
  have hpq : ∀ k, loc a = some k → loc b' ≠ some k := fun k h1 h2 => by
    rcases lb k h2 with g | g
    · exact o1.pq k h1 g
    · have := o1.lt (.inl h1); omega
  have z0 : ¬ 0 = H1.next := by omega
  have z1 : ¬ 1 = H1.next := by omega
  refine Run.loop (N := t.ts.length) (fun i s H => s = [.int .i64 (i : Nat)] ∧ ∃ c, InW H x y z H1.next a b' c ⟨setP t.ps (p : Int) (wakeP r1), t.q ++ [(p : Int)], wo (t.ts.take i) p⟩) ⟨rfl, .nils, e4, (Heap.set_blk _ _ _).trans ((if_neg z0).trans d0), (Heap.set_blk _ _ _).trans ((if_neg z1).trans d1), n1, by show H1.next < H4.next; omega, (Heap.set_blk _ _ _).trans (if_pos rfl),
    ⟨oa4.frame f6 fun k h1 h2 => (kall k (.inl h1)).2 h2, ob'.frame f6 fun k h1 h2 => (kall k (.inr h1)).2 h2, Own.nils _ _, hpq, fun k _ h2 => (by cases h2), fun k _ h2 => (by cases h2)⟩, fun k hk => kall k (by
      rcases hk with g | g | g
      · exact .inl g
      · exact .inr g
      · cases g)⟩ ?_
  rintro i s H hi ⟨rfl, c', hW⟩
  have wf := hW.fl
  have wn := hW.ln
  by_cases hlt : i < t.ts.length
  · have h2 := h.s.idx (k := .i64) (i := i) (by simpa using hlt)
    simp only [List.getElem_map] at h2
    have htk : t.ts.take (i + 1) = t.ts.take i ++ [t.ts[i]] := take_snoc hlt
    have hwl : (wo (t.ts.take i) p).length ≤ 8 := Nat.le_trans (wo_len _ _) (by rw [List.length_take]; omega)
    simp only [ferry_ferryref09_woken_l1, ferry_ferryref09_woken_j1]
    (repeat' (first | (simp only [wp, extractV, exists_eq_left', if_true, if_false, ite_true, ite_false, reduceIte, Nat.reduceAdd, Nat.reduceLT, Nat.reduceLeDiff, Nat.reduceEqDiff, hW.b0, h.s.len, List.length_map, ltT hlt, h2, tm_proc, tm_take, tm_len, hW.bl, addN hlt h.big.2.2]) | (with_reducible refine Run.gC ?_ ?_ <;> intro hb <;> try simp only [hb]) | (with_reducible refine Run.gG ?_ ?_ <;> intro hb <;> try simp only [hb]) | (with_reducible refine Run.gQ ?_ ?_ <;> intro hb <;> try simp only [hb])))
    · have hne : t.ts[i].proc = (p : Int) := by simpa using hb
      refine ⟨hlt, c', ?_⟩
      have e : wo (t.ts.take (i + 1)) p = wo (t.ts.take i) p := by unfold wo; rw [htk, List.filter_append, List.filter_cons_of_neg (by simp [hne]), List.filter_nil, List.append_nil]
      rw [e]; exact hW
    · have hne : ¬ t.ts[i].proc = (p : Int) := by simpa using hb
      have e : wo (t.ts.take (i + 1)) p = wo (t.ts.take i) p ++ [t.ts[i]] := by unfold wo; rw [htk, List.filter_append, List.filter_cons_of_pos (by simp [hne])]; rfl
      refine (Run.slice (n := 0)).2 ⟨[tmRow t.ts[i]], rfl, ?_⟩
      have g1 : Frame H (H.add ⟨2, [tmRow t.ts[i]]⟩) (fun _ => False) := Frame.add _ _
      have hcn : ∀ k, loc c' = some k → k < H.next := fun k hk => hW.o.lt (.inr (.inr hk))
      refine (Run.tapp (items := [tmRow t.ts[i]]) (by show H.floor ≤ H.next + 1; omega) (hW.o.s.frame g1 fun _ _ g => g) (fun k hk => ?_) ?_ ?_).mono fun c2 H5 ⟨oc, g2, lc⟩ => ?_
      · have := hcn k hk
        simp [visB, this]
      · simp [itemsV, visB, Heap.add_next, Heap.add_blk]
      · simp only [List.length_map, List.length_cons, List.length_nil]; unfold room; omega
      have g3 := g1.trans g2 (r := fun k => loc c' = some k) (fun _ _ g => g.elim) (fun _ _ g => g)
      have hn5 := g2.next
      rw [Heap.add_next] at hn5
      have lc' : ∀ k, loc c2 = some k → loc c' = some k ∨ H.next < k := fun k hk => (lc k hk).imp id fun g => by rw [Heap.add_next] at g; omega
      have bl5 : H5.blk H1.next = some ⟨3, [[a, b', c']]⟩ := (g3.old _ wn fun g => (hW.k _ (.inr (.inr g))).2 rfl).trans hW.bl
      have b05 : H5.blk 0 = some ⟨3, [[x, y, z]]⟩ := (g3.old 0 (by omega) fun g => by have := (hW.k _ (.inr (.inr g))).1; omega).trans hW.b0
      have b15 : H5.blk 1 = some ⟨3, [[.nils, .nils, .nils]]⟩ := (g3.old 1 (by omega) fun g => by have := (hW.k _ (.inr (.inr g))).1; omega).trans hW.b1
      have f5' : H5.floor = 0 := g3.floor.trans wf
      (repeat' (first | (simp only [wp, extractV, exists_eq_left', if_true, if_false, ite_true, ite_false, reduceIte, Nat.reduceAdd, Nat.reduceLT, Nat.reduceLeDiff, Nat.reduceEqDiff, bl5, f5', oc.cells, addN hlt h.big.2.2]) | (with_reducible refine Run.gC ?_ ?_ <;> intro hb <;> try simp only [hb]) | (with_reducible refine Run.gG ?_ ?_ <;> intro hb <;> try simp only [hb]) | (with_reducible refine Run.gQ ?_ ?_ <;> intro hb <;> try simp only [hb])))
      have g4 : Frame H5 (H5.set H1.next ⟨3, [[a, b', c2]]⟩) (fun k => k = H1.next) := Frame.set _ _ rfl
      have kc : ∀ k, loc c2 = some k → 2 ≤ k ∧ k ≠ H1.next := fun k hk => by
        rcases lc' k hk with g | g
        · exact hW.k k (.inr (.inr g))
        · omega
      have oc' : Own H5 c2 2 ((wo (t.ts.take (i + 1)) p).map tmRow) := by rw [e, List.map_append]; exact oc
      refine ⟨hlt, c2, f5', (Heap.set_blk _ _ _).trans ((if_neg z0).trans b05), (Heap.set_blk _ _ _).trans ((if_neg z1).trans b15), n1, by show H1.next < H5.next; omega, (Heap.set_blk _ _ _).trans (if_pos rfl),
        ⟨(hW.o.p.frame g3 fun k h1 h2 => hW.o.ps k h1 h2).frame g4 fun k h1 h2 => (hW.k k (.inl h1)).2 h2, (hW.o.q.frame g3 fun k h1 h2 => hW.o.qs k h1 h2).frame g4 fun k h1 h2 => (hW.k k (.inr (.inl h1))).2 h2,
          oc'.frame g4 fun k h1 h2 => (kc k h1).2 h2, hW.o.pq, fun k h1 h2 => ?_, fun k h1 h2 => ?_⟩, fun k hk => ?_⟩
      · rcases lc' k h2 with g | g
        · exact hW.o.ps k h1 g
        · have := hW.o.lt (.inl h1); omega
      · rcases lc' k h2 with g | g
        · exact hW.o.qs k h1 g
        · have := hW.o.lt (.inr (.inl h1)); omega
      · rcases hk with g | g | g
        · exact hW.k k (.inl g)
        · exact hW.k k (.inr (.inl g))
        · exact kc k g
  · simp only [ferry_ferryref09_woken_l1]
    have eT : (⟨setP t.ps (p : Int) (wakeP r1), t.q ++ [(p : Int)], wo (t.ts.take i) p⟩ : Tab) = t.wake (p : Int) r1 := by
      rw [take_all (by omega)]
      unfold Tab.wake wo
      congr 1
      exact List.filter_congr fun a _ => by simp
    (repeat' (first | (simp only [wp, extractV, exists_eq_left', if_true, if_false, ite_true, ite_false, reduceIte, Nat.reduceAdd, Nat.reduceLT, Nat.reduceLeDiff, Nat.reduceEqDiff, hW.b0, h.s.len, List.length_map, ltF hlt, hW.bl, hW.b1, wf, tupV]) | (with_reducible refine Run.gC ?_ ?_ <;> intro hb <;> try simp only [hb]) | (with_reducible refine Run.gG ?_ ?_ <;> intro hb <;> try simp only [hb]) | (with_reducible refine Run.gQ ?_ ?_ <;> intro hb <;> try simp only [hb])))
    have fB : Frame H (H.set 1 ⟨3, [[a, b', c']]⟩) (fun k => k = 1) := Frame.set _ _ rfl
    have ho := hW.o.frame fB fun k hk e => by have := (hW.k k hk).1; omega
    rw [eT] at ho
    obtain ⟨a', b2, c2, q1, q2⟩ := thaw2_tab ho (wake_wp h.wp _ _) (hok.wake hm hs2 r1) ok
    exact ⟨_, q1, _, _, _, rfl, q2⟩
end Go.Fv.Tr
