/-
  What the functions of the layer 9 answer: wake. By an AI agent; no person has read it.
-/
import Derived.Test.YtjjiphigolegbabGreatDoorFvSpU
import Derived.Test.YtjjiphigolegbabGreatDoorFvMem2
import Derived.Test.YtjjiphigolegbabGreatDoorFvTr9
set_option linter.unusedVariables false
set_option linter.unusedSimpArgs false
set_option linter.unusedSectionVars false
/-! What the functions of the layer 9 answer: wake. -/
namespace Go.Fv.Tr
open Go Go.Fv Go.Fv.Pl Go.Proofs
set_option linter.unusedSimpArgs false
set_option linter.unusedVariables false
variable {G : Nat → Option (List V)}

theorem len16 {α : Type} {l : List α} (h : l.length = 16) : ∃ a0 a1 a2 a3 a4 a5 a6 a7 a8 a9 a10 a11 a12 a13 a14 a15, l = [a0, a1, a2, a3, a4, a5, a6, a7, a8, a9, a10, a11, a12, a13, a14, a15] := by
  match l, h with
  | [a0, a1, a2, a3, a4, a5, a6, a7, a8, a9, a10, a11, a12, a13, a14, a15], _ => exact ⟨_, _, _, _, _, _, _, _, _, _, _, _, _, _, _, _, rfl⟩
theorem wake_wp {t : Tab} (h : ∀ p ∈ t.ps, Wp p) (n r1 : Int) : ∀ p ∈ (t.wake n r1).ps, Wp p := by
  intro p hp
  obtain ⟨i, hi⟩ := List.getElem?_of_mem hp
  simp only [Tab.wake, setP, List.getElem?_modify] at hi
  obtain ⟨q, hq, e⟩ := Option.map_eq_some_iff.1 hi
  have := h q (List.mem_of_getElem? hq)
  split at e
  · subst e; unfold Wp wakeP; simp [show q.regs.length = 16 from this]
  · subst e; exact this
theorem setP_map {ps : List Pr} {f : Pr → Pr} {p : Nat} (hp : p < ps.length) : (setP ps (p : Int) f).map prRow = (ps.map prRow).set p (prRow (f ps[p])) := by
  unfold setP
  rw [Int.toNat_natCast]
  refine List.ext_getElem? fun i => ?_
  rw [List.getElem?_map, List.getElem?_modify, List.getElem?_set, List.getElem?_map, List.length_map]
  by_cases e : p = i
  · subst e
    simp [hp]
  · simp [e]

set_option maxRecDepth 20000 in
theorem wake_spec (n : Nat) {H : Heap} {l s : Nat} {x y z : V} {t : Tab} (hb : H.blk l = some ⟨s, [[x, y, z]]⟩) (h : OwnTab H x y z t) (hl : H.floor ≤ l) (hln : l < H.next) (hlx : loc x ≠ some l) (hly : loc y ≠ some l) (hlz : loc z ≠ some l)
    (hq : t.q.length ≤ 8) (hts : t.ts.length ≤ 8) (hwp : ∀ p ∈ t.ps, Wp p) {p : Nat} (hp : p < t.ps.length) (r1 : Int) :
    Run (callV (cfg G) (sem (cfg G) (n + 4)) 38 [.ptr l 0 0, .int .i64 (p : Int), .int .u32 r1]) H fun _ H' => ∃ y' z', H'.blk l = some ⟨s, [[x, y', z']]⟩ ∧ OwnTab H' x y' z' (t.wake p r1) ∧
      Frame H H' (fun k => k = l ∨ loc x = some k ∨ loc y = some k ∨ loc z = some k) ∧ (∀ k, loc y' = some k → loc y = some k ∨ H.next ≤ k) ∧ ∀ k, loc z' = some k → loc z = some k := by
  rw [callV_inl rfl, ferry_ready_Table_wake_eq]
  have n1 : ¬ l = H.next := by omega
  obtain ⟨lx, b, ex, hix, hbx, hrx, hfx⟩ := h.p.idx (k := .i64) (i := p) (by simpa using hp)
  have hlxn := h.p.lt ex
  have n2 : ¬ lx = H.next := by omega
  have n3 : ¬ l = lx := fun e => hlx (e ▸ ex)
  have n4 : ¬ H.next = lx := fun e => n2 e.symm
  have hpl : p < b.rows.length := (List.getElem?_eq_some_iff.1 hrx).1
  have hgw := hwp _ (List.getElem_mem hp)
  simp only [List.getElem_map] at hrx
  obtain ⟨a0, a1, a2, a3, a4, a5, a6, a7, a8, a9, a10, a11, a12, a13, a14, a15, hregs⟩ := len16 hgw
  have hrow : prRow t.ps[p] = [.int .u32 a0, .int .u32 a1, .int .u32 a2, .int .u32 a3, .int .u32 a4, .int .u32 a5, .int .u32 a6, .int .u32 a7, .int .u32 a8, .int .u32 a9, .int .u32 a10, .int .u32 a11, .int .u32 a12, .int .u32 a13, .int .u32 a14, .int .u32 a15,
      .int .u32 t.ps[p].pc, .int .i64 t.ps[p].state, .int .i64 t.ps[p].prio, .int .i64 t.ps[p].wait, .int .i64 t.ps[p].obj] := by unfold prRow; rw [hregs]; rfl
  have hrow' : prRow (wakeP r1 t.ps[p]) = [.int .u32 a0, .int .u32 r1, .int .u32 a2, .int .u32 a3, .int .u32 a4, .int .u32 a5, .int .u32 a6, .int .u32 a7, .int .u32 a8, .int .u32 a9, .int .u32 a10, .int .u32 a11, .int .u32 a12, .int .u32 a13, .int .u32 a14, .int .u32 a15,
      .int .u32 t.ps[p].pc, .int .i64 1, .int .i64 t.ps[p].prio, .int .i64 0, .int .i64 0] := by unfold prRow wakeP; rw [hregs]; rfl
  rw [hrow] at hrx
  have hgs : ∀ r : List V, (b.rows.set p r)[p]? = some r := fun r => List.getElem?_set_self hpl
  have hai : aidxV 16 1 (.ptr lx p 0) (.int .i64 1) = some (.ptr lx p 1) := by simp [aidxV, padd]
  simp only [ferry_ready_Table_wake]
  (repeat' (first | (simp only [wp, extractV, exists_eq_left', if_true, if_false, ite_true, ite_false, reduceIte, Nat.reduceAdd, Nat.reduceLT, Nat.reduceLeDiff, Nat.reduceEqDiff, hb, n1, n2, n3, n4, hix, nilCheckV, hbx, hrx, hfx, hgs, Heap.set_set, List.set_set, hai]) | (with_reducible refine Run.gC ?_ ?_ <;> intro hb <;> try simp only [hb]) | (with_reducible refine Run.gG ?_ ?_ <;> intro hb <;> try simp only [hb]) | (with_reducible refine Run.gQ ?_ ?_ <;> intro hb <;> try simp only [hb])))
  rw [← hrow']
  refine (Run.slice (n := 0)).2 ⟨[intRow (p : Int)], rfl, ?_⟩
  have hx0 := (h.p.frame (Frame.add ⟨1, [[.int .i64 (p : Int)]]⟩ (fun _ => False)) fun _ _ g => g).put (i := p) ex ((Heap.add_old hlxn).trans hbx) (prRow (wakeP r1 t.ps[p]))
  rw [← setP_map hp (f := wakeP r1)] at hx0
  have fr1 : Frame H ((H.add ⟨1, [[.int .i64 (p : Int)]]⟩).set lx ⟨b.sz, b.rows.set p (prRow (wakeP r1 t.ps[p]))⟩) (fun k => loc x = some k) :=
    (Frame.add ⟨1, [[.int .i64 (p : Int)]]⟩ (fun _ => False)).trans (Frame.set _ lx (p := fun k => loc x = some k) ex) (fun _ _ g => g.elim) (fun _ _ g => g)
  have hc1 : ((H.add ⟨1, [[.int .i64 (p : Int)]]⟩).set lx ⟨b.sz, b.rows.set p (prRow (wakeP r1 t.ps[p]))⟩).blk H.next = some ⟨1, [[.int .i64 (p : Int)]]⟩ := by rw [Heap.set_blk, if_neg n4]; exact Heap.add_new _
  have hn1 : ((H.add ⟨1, [[.int .i64 (p : Int)]]⟩).set lx ⟨b.sz, b.rows.set p (prRow (wakeP r1 t.ps[p]))⟩).next = H.next + 1 := rfl
  generalize (H.add ⟨1, [[.int .i64 (p : Int)]]⟩).set lx ⟨b.sz, b.rows.set p (prRow (wakeP r1 t.ps[p]))⟩ = H1 at hx0 fr1 hc1 hn1 ⊢
  have fr2 := fr1.trans (Frame.add ⟨1, [intRow (p : Int)]⟩ (fun _ => False)) (r := fun k => loc x = some k) (fun _ _ g => g) (fun _ _ g => g.elim)
  have hHn : H.floor ≤ H.next := by omega
  have hyn : ∀ k, loc y = some k → k < H.next := fun k hk => h.q.lt hk
  have hzn : ∀ k, loc z = some k → k < H.next := fun k hk => h.s.lt hk
  refine (Run.tapp (items := [intRow (p : Int)]) (by rw [fr2.floor, Heap.add_next, hn1]; omega) (h.q.frame fr2 fun k h1 h2 => h.pq k h2 h1) (fun k hk => ?_) ?_ ?_).mono fun y' H3 ⟨oy, f3, l3⟩ => ?_
  · have := hyn k hk
    have h2 : k < H.next + 1 := by omega
    simp [visB, h2]
  · simp [itemsV, visB, Heap.add_next, Heap.add_blk, hn1]
  · simp only [List.length_map, List.length_cons, List.length_nil]; unfold room; omega
  have fr3 := fr2.trans f3 (r := fun k => loc x = some k ∨ loc y = some k) (fun _ _ g => .inl g) (fun _ _ g => .inr g)
  have hb3 : H3.blk l = some ⟨s, [[x, y, z]]⟩ := (fr3.old l hln fun g => g.elim hlx hly).trans hb
  have hfl3 : H3.floor ≤ l := by rw [fr3.floor]; exact hl
  have hnx3 := fr3.next
  have hnx3' := f3.next
  rw [Heap.add_next, hn1] at hnx3'
  have hc3 : H3.blk H.next = some ⟨1, [[.int .i64 (p : Int)]]⟩ := (f3.old H.next (by rw [Heap.add_next, hn1]; omega) fun g => by have := hyn _ g; omega).trans ((Heap.add_old (by omega)).trans hc1)
  have hx3 : Own H3 x 21 ((setP t.ps (p : Int) (wakeP r1)).map prRow) := (hx0.frame (Frame.add ⟨1, [intRow (p : Int)]⟩ (fun _ => False)) fun _ _ g => g).frame f3 fun k h1 h2 => h.pq k h1 h2
  have hz3 : Own H3 z 2 (t.ts.map tmRow) := h.s.frame fr3 fun k h1 h2 => h2.elim (fun g => h.ps k g h1) (fun g => h.qs k g h1)
  have ly' : ∀ k, loc y' = some k → loc y = some k ∨ H.next < k := fun k hk => (l3 k hk).imp id fun g => by rw [Heap.add_next, hn1] at g; omega
  (repeat' (first | (simp only [wp, extractV, exists_eq_left', if_true, if_false, ite_true, ite_false, reduceIte, Nat.reduceAdd, Nat.reduceLT, Nat.reduceLeDiff, Nat.reduceEqDiff, hb3, hfl3, oy.cells]) | (with_reducible refine Run.gC ?_ ?_ <;> intro hb <;> try simp only [hb]) | (with_reducible refine Run.gG ?_ ?_ <;> intro hb <;> try simp only [hb]) | (with_reducible refine Run.gQ ?_ ?_ <;> intro hb <;> try simp only [hb])))
  have f4 : Frame H3 (H3.set l ⟨s, [[x, y', z]]⟩) (fun k => k = l) := Frame.set _ _ rfl
  have hF : ∀ m, Asks G (n + 1 + m) (.fn 58 [.ptr H.next 0 0]) H.next ⟨1, [[.int .i64 (p : Int)]]⟩ (fun a => V.agg (tmRow a)) (fun a => decide (a.proc = (p : Int))) := fun m => by
    rw [Nat.add_right_comm]; exact wake_asks (n + m) H.next p
  refine (deleteF_tm (n + 1) hF (hz3.frame f4 fun k h1 h2 => hlz (h2 ▸ h1)) ((f4.old H.next (by omega) (fun g : H.next = l => n1 g.symm)).trans hc3) (fun g => by have := hzn _ g; omega) (Nat.lt_of_lt_of_le (by omega : H.next < H3.next) f4.next) (by unfold big; omega)).mono fun z' H5 ⟨oz, f5, l5⟩ => ?_
  have hb5 : H5.blk l = some ⟨s, [[x, y', z]]⟩ := (f5.old l (by show l < H3.next; omega) fun g => hlz g).trans (by rw [Heap.set_blk, if_pos rfl])
  have hfl5 : H5.floor ≤ l := by rw [f5.floor]; exact hfl3
  (repeat' (first | (simp only [wp, extractV, exists_eq_left', if_true, if_false, ite_true, ite_false, reduceIte, Nat.reduceAdd, Nat.reduceLT, Nat.reduceLeDiff, Nat.reduceEqDiff, hb5, hfl5, oz.cells]) | (with_reducible refine Run.gC ?_ ?_ <;> intro hb <;> try simp only [hb]) | (with_reducible refine Run.gG ?_ ?_ <;> intro hb <;> try simp only [hb]) | (with_reducible refine Run.gQ ?_ ?_ <;> intro hb <;> try simp only [hb])))
  have f6 : Frame H5 (H5.set l ⟨s, [[x, y', z']]⟩) (fun k => k = l) := Frame.set _ _ rfl
  have hyl : loc y' ≠ some l := fun g => by
    rcases ly' l g with g | g
    · exact hly g
    · omega
  have hzl : ∀ k, loc z' = some k → k ≠ l := fun k hk e => hlz (e ▸ l5 k hk)
  refine ⟨y', z', rfl, ⟨?_, ?_, ?_, fun k h1 h2 => ?_, fun k h1 h2 => h.ps k h1 (l5 k h2), fun k h1 h2 => ?_⟩, ?_, fun k hk => (ly' k hk).imp id fun g => by omega, l5⟩
  · exact ((hx3.frame f4 fun k h1 h2 => hlx (h2 ▸ h1)).frame f5 fun k h1 h2 => h.ps k h1 h2).frame f6 fun k h1 h2 => hlx (h2 ▸ h1)
  · have := ((oy.frame f4 fun k h1 h2 => hyl (h2 ▸ h1)).frame f5 fun k h1 h2 => by
      rcases ly' k h1 with g | g
      · exact h.qs k g h2
      · have := hzn k h2; omega).frame f6 fun k h1 h2 => hyl (h2 ▸ h1)
    simp only [Tab.wake, List.map_append, List.map_cons, List.map_nil]
    exact this
  · have := oz.frame f6 fun k h1 h2 => hzl k h1 h2
    have ef : (t.ts.filter fun a => !decide (a.proc = (p : Int))) = t.ts.filter (·.proc ≠ (p : Int)) := List.filter_congr fun a _ => by simp
    rw [ef] at this
    exact this
  · rcases ly' k h2 with g | g
    · exact h.pq k h1 g
    · have := h.p.lt h1; omega
  · have g2 := l5 k h2
    rcases ly' k h1 with g | g
    · exact h.qs k g g2
    · have := hzn k g2; omega
  · have a1 := fr3.trans f4 (r := fun k => k = l ∨ loc x = some k ∨ loc y = some k ∨ loc z = some k) (fun _ _ g => .inr (g.imp id .inl)) (fun _ _ g => .inl g)
    exact (a1.trans f5 (r := fun k => k = l ∨ loc x = some k ∨ loc y = some k ∨ loc z = some k) (fun _ _ g => g) (fun _ _ g => .inr (.inr (.inr g)))).trans f6 (fun _ _ g => g) (fun _ _ g => .inl g)
end Go.Fv.Tr
