/-
  What Yield answers. By an AI agent; no person has read it.
-/
import Derived.Test.YtjjiphigolegbabDoorFvSpC
set_option linter.unusedVariables false
set_option linter.unusedSimpArgs false
set_option linter.unusedSectionVars false
/-! What Yield answers. -/
namespace Go.Fv.Tr
open Go Go.Fv Go.Fv.Pl Go.Proofs
set_option linter.unusedSimpArgs false
set_option linter.unusedVariables false
variable {G : Nat → Option (List V)}

theorem leave_spec (n : Nat) {H : Heap} {l s : Nat} {x y z : V} {t : Tab} (hb : H.blk l = some ⟨s, [[x, y, z]]⟩) (h : OwnTab H x y z t) (hl : H.floor ≤ l) (hln : l < H.next) (hlx : loc x ≠ some l) (hly : loc y ≠ some l) (hlz : loc z ≠ some l) (hq : t.q.length < big) (p : Int) :
    Run (callV (cfg G) (sem (cfg G) (n + 4)) 76 [.ptr l 0 0, .int .i64 p]) H fun _ H' => ∃ y', H'.blk l = some ⟨s, [[x, y', z]]⟩ ∧ OwnTab H' x y' z { t with q := t.q.filter (· ≠ p) } ∧
      Frame H H' (fun k => k = l ∨ loc y = some k) ∧ ∀ k, loc y' = some k → loc y = some k := by
  rw [callV_inl rfl, ferry_ready_Table_leave_eq]
  have n1 : ¬ l = H.next := by omega
  simp only [ferry_ready_Table_leave]
  (repeat' (first | (simp only [wp, extractV, exists_eq_left', if_true, if_false, ite_true, ite_false, reduceIte, Nat.reduceAdd, Nat.reduceLT, Nat.reduceLeDiff, Nat.reduceEqDiff, hb, n1]) | (with_reducible refine Run.gC ?_ ?_ <;> intro hb <;> try simp only [hb]) | (with_reducible refine Run.gG ?_ ?_ <;> intro hb <;> try simp only [hb]) | (with_reducible refine Run.gQ ?_ ?_ <;> intro hb <;> try simp only [hb])))
  have hF : ∀ m, Asks G (n + 1 + m) (.fn 107 [.ptr H.next 0 0]) H.next ⟨1, [[.int .i64 p]]⟩ (fun a => V.int .i64 a) (fun a => decide (a = p)) := fun m => by
    rw [Nat.add_right_comm]; exact leave_asks (n + m) H.next p
  have fr : Frame H (H.add ⟨1, [[.int .i64 p]]⟩) (fun _ => False) := Frame.add _ _
  refine (deleteF_int (n + 1) hF (h.q.frame fr fun _ _ h => h) (Heap.add_new _) (fun e => by have := h.q.lt e; omega) (Nat.lt_succ_self _) hq).mono fun y' H1 ⟨o, f, ly⟩ => ?_
  have hb1 : H1.blk l = some ⟨s, [[x, y, z]]⟩ := (f.old l (by rw [Heap.add_next]; omega) fun e => hly e).trans ((fr.old l hln id).trans hb)
  have e1 : H1.floor ≤ l := by rw [f.floor]; exact hl
  have nx : H.next + 1 ≤ H1.next := f.next
  (repeat' (first | (simp only [wp, extractV, exists_eq_left', if_true, if_false, ite_true, ite_false, reduceIte, Nat.reduceAdd, Nat.reduceLT, Nat.reduceLeDiff, Nat.reduceEqDiff, hb1, e1, o.cells]) | (with_reducible refine Run.gC ?_ ?_ <;> intro hb <;> try simp only [hb]) | (with_reducible refine Run.gG ?_ ?_ <;> intro hb <;> try simp only [hb]) | (with_reducible refine Run.gQ ?_ ?_ <;> intro hb <;> try simp only [hb])))
  have ef : (t.q.filter fun a => !decide (a = p)) = t.q.filter (· ≠ p) := List.filter_congr fun a _ => by simp
  rw [ef] at o
  have ft : Frame H (H1.set l ⟨s, [[x, y', z]]⟩) (fun k => k = l ∨ loc y = some k) :=
    ((fr.mono (fun _ _ h => h.elim)).trans f (fun _ _ h => h) (fun _ _ h => .inr h)).trans (Frame.set _ _ (p := fun k => k = l) rfl) (fun _ _ h => h) (fun _ _ h => .inl h)
  have hxx : Own (H1.set l ⟨s, [[x, y', z]]⟩) x 21 (t.ps.map prRow) := h.p.frame ft fun k hk g => by
    rcases g with rfl | g
    · exact hlx hk
    · exact h.pq k hk g
  have hzz : Own (H1.set l ⟨s, [[x, y', z]]⟩) z 2 (t.ts.map tmRow) := h.s.frame ft fun k hk g => by
    rcases g with rfl | g
    · exact hlz hk
    · exact h.qs k g hk
  have hyy : Own (H1.set l ⟨s, [[x, y', z]]⟩) y' 1 ((t.q.filter (· ≠ p)).map intRow) := o.frame (Frame.set _ _ (p := fun k => k = l) rfl) fun k hk e => hly (by rw [← e]; exact ly k hk)
  exact ⟨y', rfl, ⟨hxx, hyy, hzz, fun k h1 h2 => h.pq k h1 (ly k h2), h.ps, fun k h1 h2 => h.qs k (ly k h1) h2⟩, ft, ly⟩

theorem big_of {t : Tab} (h : TabOk t) : t.ps.length ≤ big ∧ t.q.length ≤ big ∧ t.ts.length ≤ big := by
  have := ((ROk_iff t).2 h).few
  unfold big
  omega
/-- What a table's own lists read as, when they are handed back. -/
theorem thaw_tab {H : Heap} {x y z : V} {t : Tab} (h : OwnTab H x y z t) (hw : ∀ p ∈ t.ps, Wp p) (hb : TabOk t) : ∃ a b c, thawV true H (.tuple [.agg [x, y, z], .nili]) = some (.tuple [.agg [a, b, c], .nili]) ∧ IsTab a b c t := by
  obtain ⟨a, a1, a2⟩ := h.p.thaw (flat_pr _) true
  obtain ⟨b, b1, b2⟩ := h.q.thaw (flat_ir _) true
  obtain ⟨c, c1, c2⟩ := h.s.thaw (flat_tm _) true
  have e1 : [x, y, z].mapM (thaw true H) = some [a, b, c] := by
    rw [List.mapM_cons, a1, List.mapM_cons, b1, List.mapM_cons, c1]; rfl
  have e2 : thaw2 true H (.agg [x, y, z]) = some (.agg [a, b, c]) := by simp only [thaw2, e1]; rfl
  refine ⟨a, b, c, ?_, a2, b2, c2, hw, big_of hb⟩
  show (([.agg [x, y, z], .nili] : List V).mapM (thaw2 true H)).bind _ = _
  rw [List.mapM_cons, e2]
  rfl
theorem thaw_bad (H : Heap) (g : Nat) : thawV true H (.tuple [.agg [.nils, .nils, .nils], errV g]) = some (badV g) := rfl
theorem OwnTab.frame {H H' : Heap} {x y z : V} {t : Tab} {p : Nat → Prop} (h : OwnTab H x y z t) (f : Frame H H' p) (hp : ∀ l, loc x = some l ∨ loc y = some l ∨ loc z = some l → ¬ p l) : OwnTab H' x y z t :=
  ⟨h.p.frame f fun l g => hp l (.inl g), h.q.frame f fun l g => hp l (.inr (.inl g)), h.s.frame f fun l g => hp l (.inr (.inr g)), h.pq, h.ps, h.qs⟩
theorem OwnTab.lt {H : Heap} {x y z : V} {t : Tab} (h : OwnTab H x y z t) {l : Nat} (hl : loc x = some l ∨ loc y = some l ∨ loc z = some l) : l < H.next := by
  rcases hl with g | g | g
  · exact h.p.lt g
  · exact h.q.lt g
  · exact h.s.lt g

/-- What a call answers that changes a table: the changed one, or why not. -/
def Ans (t : Tab) (ok : Prop) (u : Tab) (r : V) : Prop :=
  (TabOk t ∧ ok ∧ ∃ a b c, r = .tuple [.agg [a, b, c], .nili] ∧ IsTab a b c u) ∨ (¬ TabOk t ∧ r = badV 0) ∨ (TabOk t ∧ ¬ ok ∧ r = badV 1)

theorem yield_spec (hG : Errs G) (n : Nat) {x y z : V} {t : Tab} (h : IsTab x y z t) (p : Int) :
    ∃ r, callV (cfg G) (sem (cfg G) (n + 8)) 35 [.agg [x, y, z], .int .i64 p] = M.ret r ∧ Ans t (inOk t p [1]) (t.yield p) r := by
  refine callV_pureE rfl (by simp [h.closed, cI]) ?_
  rw [ferry_ready_Yield_eq]
  simp only [ferry_ready_Yield]
  (repeat' (first | (simp only [wp, extractV, exists_eq_left', if_true, if_false, ite_true, ite_false, reduceIte, Nat.reduceAdd, Nat.reduceLT, Nat.reduceLeDiff, Nat.reduceEqDiff, Run.slice, fillRows, List.replicate_succ, List.replicate_zero]) | (with_reducible refine Run.gC ?_ ?_ <;> intro hb <;> try simp only [hb]) | (with_reducible refine Run.gG ?_ ?_ <;> intro hb <;> try simp only [hb]) | (with_reducible refine Run.gQ ?_ ?_ <;> intro hb <;> try simp only [hb])))
  refine (in_spec hG n h p (w := .imm 1 [[.int .i64 1]]) (ss := [1]) (Sls.imm _ _) (by decide) (Nat.zero_le _) ?_).mono fun v H1 hres => ?_
  · rw [List.mapM_cons, thawV_closed h.closed]
    rfl
  rcases hres with ⟨hok, hin, u, rfl, a, b, c, rfl, o, f, ll⟩ | ⟨hok, rfl, rfl⟩ | ⟨hok, hin, rfl, rfl⟩
  · have b1 : H1.blk 1 = some ⟨3, [[.nils, .nils, .nils]]⟩ := (f.old 1 (by simp [Heap.add_next, Heap.empty_next]) id).trans rfl
    have e1 : H1.floor = 0 := f.floor
    have n1 : 3 ≤ H1.next := f.next
    have ll2 : ∀ l, loc a = some l ∨ loc b = some l ∨ loc c = some l → 3 ≤ l := ll
    have hps : inOk t p [1] → isReady t.ps p := fun ⟨q, h1, h2⟩ => by
      unfold isReady; rw [h1]; simpa using h2
    (repeat' (first | (simp only [wp, extractV, exists_eq_left', if_true, if_false, ite_true, ite_false, reduceIte, Nat.reduceAdd, Nat.reduceLT, Nat.reduceLeDiff, Nat.reduceEqDiff, e1]) | (with_reducible refine Run.gC ?_ ?_ <;> intro hb <;> try simp only [hb]) | (with_reducible refine Run.gG ?_ ?_ <;> intro hb <;> try simp only [hb]) | (with_reducible refine Run.gQ ?_ ?_ <;> intro hb <;> try simp only [hb])))
    have fA : Frame H1 ((H1.add ⟨3, [[.nils, .nils, .nils]]⟩).set H1.next ⟨3, [[a, b, c]]⟩) (fun k => k = H1.next) := (Frame.add _ _).trans (Frame.set _ _ (p := fun k => k = H1.next) rfl) (fun _ _ h => h) (fun _ _ h => h)
    have oA := o.frame fA fun l hl e => by have := o.lt hl; omega
    have few := big_of hok
    refine (leave_spec (n + 3) (l := H1.next) (s := 3) (x := a) (y := b) (z := c) (t := t) (by rw [Heap.set_blk, if_pos rfl]) oA (by show H1.floor ≤ H1.next; omega) (Nat.lt_succ_self _) (fun e => by have := o.lt (.inl e); omega) (fun e => by have := o.lt (.inr (.inl e)); omega)
      (fun e => by have := o.lt (.inr (.inr e)); omega) (by have := ((ROk_iff t).2 hok).few; unfold big; omega) p).mono fun _ H2 ⟨y2, b2, o2, f2, l2⟩ => ?_
    have nA : H1.next + 1 ≤ H2.next := f2.next
    have e2 : H2.floor = 0 := f2.floor.trans e1
    have c1 : H2.blk 1 = some ⟨3, [[.nils, .nils, .nils]]⟩ := by
      refine (f2.old 1 (by show 1 < H1.next + 1; omega) fun g => ?_).trans ((fA.old 1 (by omega) (by omega)).trans b1)
      rcases g with g | g
      · omega
      · have := ll2 1 (.inr (.inl g)); omega
    (repeat' (first | (simp only [wp, extractV, exists_eq_left', if_true, if_false, ite_true, ite_false, reduceIte, Nat.reduceAdd, Nat.reduceLT, Nat.reduceLeDiff, Nat.reduceEqDiff, b2, Run.slice, fillRows, List.replicate_succ, List.replicate_zero]) | (with_reducible refine Run.gC ?_ ?_ <;> intro hb <;> try simp only [hb]) | (with_reducible refine Run.gG ?_ ?_ <;> intro hb <;> try simp only [hb]) | (with_reducible refine Run.gQ ?_ ?_ <;> intro hb <;> try simp only [hb])))
    have hfew := ((ROk_iff t).2 hok).few
    have hlf : (t.q.filter (· ≠ p)).length ≤ t.q.length := List.length_filter_le _ _
    refine (Run.app (items := [[.int .i64 p]]) (bytes := 8) (by show H2.floor ≤ H2.next + 1; omega) (o2.q.frame (Frame.add _ (fun _ => False)) fun _ _ h => h) (by simp [itemsV, Heap.add_blk]) ?_).mono fun y3 H3 ⟨o3, f3, l3⟩ => ?_
    · simp only [List.length_map, List.length_singleton]
      unfold room
      omega
    have hyn : loc y2 ≠ some H1.next := fun e => by have := o.lt (.inr (.inl (l2 _ e))); omega
    have hy1 : loc y2 ≠ some 1 := fun e => by have := ll2 1 (.inr (.inl (l2 _ e))); omega
    have fB : Frame H2 H3 (fun k => loc y2 = some k) := (Frame.add _ _).trans f3 (fun _ _ h => h) (fun _ _ h => h)
    have d2 : H3.blk H1.next = some ⟨3, [[a, y2, c]]⟩ := (fB.old _ (by omega) hyn).trans b2
    have d1 : H3.blk 1 = some ⟨3, [[.nils, .nils, .nils]]⟩ := (fB.old _ (by omega) hy1).trans c1
    have e3 : H3.floor = 0 := fB.floor.trans e2
    have n3 : H2.next ≤ H3.next := fB.next
    have n4 : ¬ 1 = H1.next := by omega
    (repeat' (first | (simp only [wp, extractV, exists_eq_left', if_true, if_false, ite_true, ite_false, reduceIte, Nat.reduceAdd, Nat.reduceLT, Nat.reduceLeDiff, Nat.reduceEqDiff, d2, d1, e3, n4, o3.cells, tupV, List.length_append, List.set_cons_zero]) | (with_reducible refine Run.gC ?_ ?_ <;> intro hb <;> try simp only [hb]) | (with_reducible refine Run.gG ?_ ?_ <;> intro hb <;> try simp only [hb]) | (with_reducible refine Run.gQ ?_ ?_ <;> intro hb <;> try simp only [hb])))
    have ly3 : ∀ l, loc y3 = some l → loc y2 = some l ∨ H2.next + 1 ≤ l := l3
    have o4 : OwnTab H3 a y3 c (t.yield p) := by
      refine ⟨o2.p.frame fB fun l h1 h2 => o2.pq l h1 h2, ?_, o2.s.frame fB fun l h1 h2 => o2.qs l h2 h1, fun l h1 h2 => ?_, o2.ps, fun l h1 h2 => ?_⟩
      · have e : (t.yield p).q.map intRow = (t.q.filter (· ≠ p)).map intRow ++ [[.int .i64 p]] := by
          show (yield t.q p).map intRow = _
          rw [yield, List.map_append]; rfl
        rw [e]; exact o3
      · rcases ly3 l h2 with g | g
        · exact o2.pq l h1 g
        · have := o2.p.lt h1; omega
      · rcases ly3 l h1 with g | g
        · exact o2.qs l g h2
        · have := o2.s.lt h2; omega
    have hy3 : ∀ l, loc a = some l ∨ loc y3 = some l ∨ loc c = some l → l ≠ H1.next ∧ l ≠ 1 := fun l hl => by
      rcases hl with g | g | g
      · have := ll2 l (.inl g); have := o.lt (.inl g); omega
      · rcases ly3 l g with g | g
        · have := ll2 l (.inr (.inl (l2 l g))); have := o.lt (.inr (.inl (l2 l g))); omega
        · omega
      · have := ll2 l (.inr (.inr g)); have := o.lt (.inr (.inr g)); omega
    have o5 := (o4.frame (Frame.set ⟨3, [[a, y3, c]]⟩ H1.next (p := fun k => k = H1.next) rfl) fun l hl e => (hy3 l hl).1 e).frame (Frame.set ⟨3, [[a, y3, c]]⟩ 1 (p := fun k => k = 1) rfl) fun l hl e => (hy3 l hl).2 e
    obtain ⟨a', b', c', q1, q2⟩ := thaw_tab o5 h.wp (hok.yield (hps hin))
    exact ⟨_, q1, .inl ⟨hok, hin, a', b', c', rfl, q2⟩⟩
  · (repeat' (first | (simp only [wp, extractV, exists_eq_left', if_true, if_false, ite_true, ite_false, reduceIte, Nat.reduceAdd, Nat.reduceLT, Nat.reduceLeDiff, Nat.reduceEqDiff, badV, eq_err, buildV, fill, tupV]) | (with_reducible refine Run.gC ?_ ?_ <;> intro hb <;> try simp only [hb]) | (with_reducible refine Run.gG ?_ ?_ <;> intro hb <;> try simp only [hb]) | (with_reducible refine Run.gQ ?_ ?_ <;> intro hb <;> try simp only [hb])))
    exact ⟨_, thaw_bad _ _, .inr (.inl ⟨hok, rfl⟩)⟩
  · (repeat' (first | (simp only [wp, extractV, exists_eq_left', if_true, if_false, ite_true, ite_false, reduceIte, Nat.reduceAdd, Nat.reduceLT, Nat.reduceLeDiff, Nat.reduceEqDiff, badV, eq_err, buildV, fill, tupV]) | (with_reducible refine Run.gC ?_ ?_ <;> intro hb <;> try simp only [hb]) | (with_reducible refine Run.gG ?_ ?_ <;> intro hb <;> try simp only [hb]) | (with_reducible refine Run.gQ ?_ ?_ <;> intro hb <;> try simp only [hb])))
    exact ⟨_, thaw_bad _ _, .inr (.inr ⟨hok, hin, rfl⟩)⟩
end Go.Fv.Tr
